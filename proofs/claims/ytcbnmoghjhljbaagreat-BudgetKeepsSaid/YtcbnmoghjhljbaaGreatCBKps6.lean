/-
  The walk of trimtabref06.Object at one kind; The walk of trimtabref06.Object at one kind; The walk of trimtabref06.Object at an Hpa; The walk of trimtabref06.Same, of two objects of one kind whose bytes are the same; A region that draws its order, in a round of a range over a function, at the wide fence: one walk of the text's order serves every order; A region that draws its order, whose operations only read but for the last one, which waits for all the others: one walk in the text's order of all but the last, then that one; The store's Copy: another store, in blocks of its own, that holds the same; A range over a function whose iterator leans on what the body keeps (Qi), and whose body on what is known of that which is handed to it; Plain arithmetic under math/bits.Div64: a division of 128 bits by 64, by two digits of 32 bits, as the library's text goes; no Go in sight.; Plain arithmetic on lists of bits (the lowest first), no Go in sight: the value of a list, the list of a value, and what each step of the reference's sums, products and divisions does to the values.; The walks of the reference's functions on lists of bits (package trimtabref01): each returns what the plain arithmetic of Bits says, for lists of at most 4096 bits; nothing that was there turns.; The walks of the reference's functions on lists of bits, the rest: the two halves of 128 bits, the bits of two halves, quotient and rest; A row of objects, as an argument reads.; Guards for arms of a walk: which operation is next
-/
import Derived.Test.YtcbnmoghjhljbaaGreatCBKps5
import Derived.Test.YtcbnmoghjhljbaaGreatCBKps1
import Derived.Lib.QuietBelow
import Derived.OrdersIn
import Derived.RangeFuncCalls
import Derived.CallsIn
import Derived.TacticsIn
import Derived.Orders
import Derived.Shelf.SlMaps.Clone
import Derived.RangeFuncNested
import Derived.RangeFuncBound
import Derived.RangeFuncLeaves
import Derived.Laws.BitsAllLaws
import Derived.Laws.Bits64
import Derived.Lib.BitFns
import Derived.Test.YtcbnmoghjhljbaaGreatProg
section
namespace Go.Proofs.YtcbnmoghjhljbaaGreat
open Go.RowKit Go.Proofs.Mem
set_option linter.unusedVariables false
set_option linter.unusedSimpArgs false
set_option maxHeartbeats 4000000 in
set_option maxRecDepth 100000 in
theorem object_nd (o : Ob) (w : World) (hk : o.kind = 2) (ho : o.n.Ok w) (hv : wfi .u64 o.version) (hn : s255 o.name) (hs : ndS o.n) :
    Calls Tryz.prog 59 #[.agg o.cells.toArray] w fun e w' => e = .returned (.string (objB o)) ∧ Below w.heap.size w w' := by
  obtain ⟨kind, name, version, ⟨w0, w1, w2, w3, w4, w5, w6⟩, ⟨p0, p1, p2, p3, p4, p5, p6, p7, p8, p9⟩, ⟨n0, n1, n2, n3, n4, n5, n6⟩, ⟨g0, g1, g2, g3, g4, g5, g6, g7⟩, ⟨h0, h1, h2, h3, h4, ⟨h5, h6, h7⟩, ⟨h8, h9, h10⟩, h11⟩⟩ := o
  simp only at hk hn hs
  subst hk
  obtain ⟨ver, hver, rfl⟩ := u64_nat hv
  clear hv
  unfold s255 at hn
  obtain ⟨_, on1, on2, on3, on4, on5⟩ := ho
  obtain ⟨tn0, tn3, tn4⟩ := hs
  simp only at on1 on2 on3 on4 on5 tn0 tn3 tn4
  unfold s255 at tn0
  obtain ⟨n3v, n3l⟩ := n3
  obtain ⟨An3, cn3, en3, _⟩ := id on3.1
  have en3 : n3v = .slice An3 n3l.length cn3 := en3
  subst en3
  simp only at on3 tn3
  have Cn3 : Hid (∀ w1, Below w.heap.size w w1 → Calls Tryz.prog 78 #[.slice An3 n3l.length cn3] w1 fun e w' => e = .returned (.string (labsB n3l)) ∧ Below w1.heap.size w1 w') := Lib.hid (fun w1 hb => labels_any ⟨_, n3l⟩ w1 (on3.below hb) tn3)
  clear on3
  obtain ⟨n4v, n4l⟩ := n4
  obtain ⟨An4, cn4, en4, _⟩ := id on4.1
  have en4 : n4v = .slice An4 n4l.length cn4 := en4
  subst en4
  simp only at on4 tn4
  have Cn4 : Hid (∀ w1, Below w.heap.size w w1 → Calls Tryz.prog 78 #[.slice An4 n4l.length cn4] w1 fun e w' => e = .returned (.string (labsB n4l)) ∧ Below w1.heap.size w1 w') := Lib.hid (fun w1 hb => labels_any ⟨_, n4l⟩ w1 (on4.below hb) tn4)
  clear on4
  obtain ⟨q, hq⟩ : ∃ q, q = objB ⟨2, name, ver, ⟨w0, w1, w2, w3, w4, w5, w6⟩, ⟨p0, p1, p2, p3, p4, p5, p6, p7, p8, p9⟩, ⟨n0, n1, n2, ⟨.slice An3 n3l.length cn3, n3l⟩, ⟨.slice An4 n4l.length cn4, n4l⟩, n5, n6⟩, ⟨g0, g1, g2, g3, g4, g5, g6, g7⟩, ⟨h0, h1, h2, h3, h4, ⟨h5, h6, h7⟩, ⟨h8, h9, h10⟩, h11⟩⟩ := ⟨_, rfl⟩
  rw [← hq]
  have HQ : Hid (q = ndB (putB 2 1 ++ textB name ++ putB ver 8) ⟨n0, n1, n2, ⟨.slice An3 n3l.length cn3, n3l⟩, ⟨.slice An4 n4l.length cn4, n4l⟩, n5, n6⟩) := Lib.hid (by rw [hq]; rfl)
  clear hq
  simp only [Ob.cells, Wl.cells, Pd.cells, Nd.cells, Gr.cells, Hp.cells, List.cons_append, List.nil_append]
  have qh0 := putB_size 2 1
  have qh1 := textB_size name
  have qh2 := putB_size ver 8
  obtain ⟨sh1, eh1, zh1, kh1⟩ := cat_of (putB 2 1) (textB name) (by omega)
  obtain ⟨sh2, eh2, zh2, kh2⟩ := cat_of sh1 (putB ver 8) (by omega)
  have HSh : Hid (putB 2 1 ++ textB name ++ putB ver 8 = sh2) := Lib.hid (by show putB 2 1 ++ textB name ++ putB ver 8 = _; rw [eh2, eh1])
  have zlh : sh2.size ≤ 300 := by omega
  clear eh1 zh1 eh2 zh2 qh0 qh1 qh2
  have qb0 := textB_size n0
  have qb1 := resB_size n1 n2
  have qb2 := labsB_le n3l (by assumption)
  have qb3 := labsB_le n4l (by assumption)
  have qb4 := putB_size (u64 n5) 8
  have qb5 := truthB_size n6
  obtain ⟨sb0, eb0, zb0, kb0⟩ := cat_of sh2 (textB n0) (by omega)
  obtain ⟨sb1, eb1, zb1, kb1⟩ := cat_of sb0 (resB n1 n2) (by omega)
  obtain ⟨sb2, eb2, zb2, kb2⟩ := cat_of sb1 (labsB n3l) (by omega)
  obtain ⟨sb3, eb3, zb3, kb3⟩ := cat_of sb2 (labsB n4l) (by omega)
  obtain ⟨sb4, eb4, zb4, kb4⟩ := cat_of sb3 (putB (u64 n5) 8) (by omega)
  obtain ⟨sb5, eb5, zb5, kb5⟩ := cat_of sb4 (truthB n6) (by omega)
  have HSb : Hid (ndB sh2 ⟨n0, n1, n2, ⟨.slice An3 n3l.length cn3, n3l⟩, ⟨.slice An4 n4l.length cn4, n4l⟩, n5, n6⟩ = sb5) := Lib.hid (by show sh2 ++ textB n0 ++ resB n1 n2 ++ labsB n3l ++ labsB n4l ++ putB (u64 n5) 8 ++ truthB n6 = _; rw [eb5, eb4, eb3, eb2, eb1, eb0])
  have zlb : sb5.size ≤ 1000000 := by omega
  clear eb0 zb0 eb1 zb1 eb2 zb2 eb3 zb3 eb4 zb4 eb5 zb5 qb0 qb1 qb2 qb3 qb4 qb5
  have HR : Hid (q = sb5) := Lib.hid (by rw [HQ.out, HSh.out, HSb.out])
  clear HQ HSh HSb zlh zlb
  have hwr : IntKind.u64.wrap (2 : Int) = 2 := by decide
  have HP1 : Hid (∀ w1, Calls Tryz.prog 74 #[.int .u64 2, .int .i64 1] w1 fun e w' => e = .returned (.string (putB 2 1)) ∧ Below w1.heap.size w1 w') := Lib.hid (fun w1 => put6_any 2 1 w1 (by decide) (by decide))
  have HP8 : Hid (∀ w1, Calls Tryz.prog 74 #[.int .u64 ver, .int .i64 8] w1 fun e w' => e = .returned (.string (putB ver 8)) ∧ Below w1.heap.size w1 w') := Lib.hid (fun w1 => put6_any ver 8 w1 hver (by decide))
  clear hver
  go_enter Tryz.func59, Tryz.ntmps59
  go_wp2_with fail
  obtain ⟨Wb, hWb⟩ : ∃ Wb, Wb = w.alloc (.cells #[.int .i64 2, .string name, .int .u64 ver, .int .i64 w0, .int .i64 w1, .int .i64 w2, w3.v, w4.v, w5.v, .int .i64 w6, .string p0, .string p1, .int .i64 p2, .int .i64 p3, .int .i64 p4, .int .i64 p5, p6.v, p7.v, p8.v, .int .i64 p9, .string n0, .int .i64 n1, .int .i64 n2, .slice An3 n3l.length cn3, .slice An4 n4l.length cn4, .int .i64 n5, .bool n6, .int .i64 g0, .int .i64 g1, .int .i64 g2, .int .i64 g3, .int .i64 g4, g5.v, g6.v, .int .i64 g7, .string h0, .int .i64 h1, .int .i64 h2, h3.v, .int .i64 h4, .int .i64 h5, .int .i64 h6, h7.v, .int .i64 h8, .int .i64 h9, h10.v, h11.v] 56) := ⟨_, rfl⟩
  have hkb := Bk.new w 56 #[.int .i64 2, .string name, .int .u64 ver, .int .i64 w0, .int .i64 w1, .int .i64 w2, w3.v, w4.v, w5.v, .int .i64 w6, .string p0, .string p1, .int .i64 p2, .int .i64 p3, .int .i64 p4, .int .i64 p5, p6.v, p7.v, p8.v, .int .i64 p9, .string n0, .int .i64 n1, .int .i64 n2, .slice An3 n3l.length cn3, .slice An4 n4l.length cn4, .int .i64 n5, .bool n6, .int .i64 g0, .int .i64 g1, .int .i64 g2, .int .i64 g3, .int .i64 g4, g5.v, g6.v, .int .i64 g7, .string h0, .int .i64 h1, .int .i64 h2, h3.v, .int .i64 h4, .int .i64 h5, .int .i64 h6, h7.v, .int .i64 h8, .int .i64 h9, h10.v, h11.v]
  have hBb : Below w.heap.size w Wb := by rw [hWb]; exact below_al _ _
  rw [← hWb] at hkb ⊢
  have bc0 : Wb.cell? ⟨w.heap.size, 0, none⟩ = some (.int .i64 2) := hkb.cell 0
  have bc1 : Wb.cell? ⟨w.heap.size, 1, none⟩ = some (.string name) := hkb.cell 1
  have bc2 : Wb.cell? ⟨w.heap.size, 2, none⟩ = some (.int .u64 ver) := hkb.cell 2
  have bc20 : Wb.cell? ⟨w.heap.size, 20, none⟩ = some (.string n0) := hkb.cell 20
  have bc21 : Wb.cell? ⟨w.heap.size, 21, none⟩ = some (.int .i64 n1) := hkb.cell 21
  have bc22 : Wb.cell? ⟨w.heap.size, 22, none⟩ = some (.int .i64 n2) := hkb.cell 22
  have bc23 : Wb.cell? ⟨w.heap.size, 23, none⟩ = some (.slice An3 n3l.length cn3) := hkb.cell 23
  have bc24 : Wb.cell? ⟨w.heap.size, 24, none⟩ = some (.slice An4 n4l.length cn4) := hkb.cell 24
  have bc25 : Wb.cell? ⟨w.heap.size, 25, none⟩ = some (.int .i64 n5) := hkb.cell 25
  have bc26 : Wb.cell? ⟨w.heap.size, 26, none⟩ = some (.bool n6) := hkb.cell 26
  clear hWb hkb
  go_region_held3 (fun w' => w'.cell? ⟨w.heap.size, 0, none⟩ = some (.int .i64 2) ∧ w'.cell? ⟨w.heap.size, 1, none⟩ = some (.string name) ∧ w'.cell? ⟨w.heap.size, 2, none⟩ = some (.int .u64 ver) ∧ Below Wb.heap.size Wb w')
    (first | (have hB9 := below_tr (by assumption : _ ∧ _ ∧ _ ∧ Below Wb.heap.size Wb _).2.2.2 hb'; exact ⟨keep_cell hB9 bc0, keep_cell hB9 bc1, keep_cell hB9 bc2, hB9⟩) | (exact ⟨bc0, bc1, bc2, (Below.refl _ _).drew⟩)) (first
    | (go_at_call 74; ((with_reducible refine (HP1.out _).mono ?_); rintro e w' ⟨rfl, hb'⟩))
    | (go_at_call 75; refine (text_any _ _ (by assumption)).mono ?_; rintro e w' ⟨rfl, hb'⟩)
    | (go_at_call 74; ((with_reducible refine (HP8.out _).mono ?_); rintro e w' ⟨rfl, hb'⟩)))
  have hBz := (by assumption : _ ∧ _ ∧ _ ∧ Below Wb.heap.size Wb _).2.2.2
  obtain ⟨W1, hW1⟩ : ∃ W1, W1 = w' := ⟨_, rfl⟩
  subst hW1
  have hB1 := hBb.trans (hBz.mono hBb.size)
  have d0 := keep_cell hBz bc0
  have d20 := keep_cell hBz bc20
  have d21 := keep_cell hBz bc21
  have d22 := keep_cell hBz bc22
  have d23 := keep_cell hBz bc23
  have d24 := keep_cell hBz bc24
  have d25 := keep_cell hBz bc25
  have d26 := keep_cell hBz bc26
  clear hwr hBz hBb HP1 HP8 bc0 bc1 bc2 bc20 bc21 bc22 bc23 bc24 bc25 bc26
  go_wp2_with fail
  obtain ⟨W0, hW0⟩ : ∃ W0, W0 = W1.alloc (.cells #[.string n0, .int .i64 n1, .int .i64 n2, .slice An3 n3l.length cn3, .slice An4 n4l.length cn4, .int .i64 n5, .bool n6] 45) := ⟨_, rfl⟩
  have hk0 := Bk.new W1 45 #[.string n0, .int .i64 n1, .int .i64 n2, .slice An3 n3l.length cn3, .slice An4 n4l.length cn4, .int .i64 n5, .bool n6]
  have hA0 : Below W1.heap.size W1 W0 := by rw [hW0]; exact below_al _ _
  have hB0 : Below w.heap.size w W0 := hB1.trans (hA0.mono hB1.size)
  rw [← hW0] at hk0 ⊢
  have c0 : W0.cell? ⟨W1.heap.size, 0, none⟩ = some (.string n0) := hk0.cell 0
  have c1 : W0.cell? ⟨W1.heap.size, 1, none⟩ = some (.int .i64 n1) := hk0.cell 1
  have c2 : W0.cell? ⟨W1.heap.size, 2, none⟩ = some (.int .i64 n2) := hk0.cell 2
  have c3 : W0.cell? ⟨W1.heap.size, 3, none⟩ = some (.slice An3 n3l.length cn3) := hk0.cell 3
  have c4 : W0.cell? ⟨W1.heap.size, 4, none⟩ = some (.slice An4 n4l.length cn4) := hk0.cell 4
  have c5 : W0.cell? ⟨W1.heap.size, 5, none⟩ = some (.int .i64 n5) := hk0.cell 5
  have c6 : W0.cell? ⟨W1.heap.size, 6, none⟩ = some (.bool n6) := hk0.cell 6
  clear hW0 hk0 hA0 d0 d20 d21 d22 d23 d24 d25 d26
  go_region_held3 (fun w' => w'.cell? ⟨W1.heap.size, 0, none⟩ = some (.string n0) ∧ w'.cell? ⟨W1.heap.size, 1, none⟩ = some (.int .i64 n1) ∧ w'.cell? ⟨W1.heap.size, 2, none⟩ = some (.int .i64 n2) ∧ w'.cell? ⟨W1.heap.size, 3, none⟩ = some (.slice An3 n3l.length cn3) ∧ w'.cell? ⟨W1.heap.size, 4, none⟩ = some (.slice An4 n4l.length cn4) ∧ w'.cell? ⟨W1.heap.size, 5, none⟩ = some (.int .i64 n5) ∧ w'.cell? ⟨W1.heap.size, 6, none⟩ = some (.bool n6) ∧ Below W0.heap.size W0 w')
    (first | (have hB9 := below_tr (by assumption : _ ∧ _ ∧ _ ∧ _ ∧ _ ∧ _ ∧ _ ∧ Below W0.heap.size W0 _).2.2.2.2.2.2.2 hb'; exact ⟨keep_cell hB9 c0, keep_cell hB9 c1, keep_cell hB9 c2, keep_cell hB9 c3, keep_cell hB9 c4, keep_cell hB9 c5, keep_cell hB9 c6, hB9⟩) | (exact ⟨c0, c1, c2, c3, c4, c5, c6, (Below.refl _ _).drew⟩)) (first
    | (go_at_call 75; refine (text_any _ _ (by assumption)).mono ?_; rintro e w' ⟨rfl, hb'⟩)
    | (go_at_call 77; refine (resources_any _ _ _ (by assumption) (by assumption)).mono ?_; rintro e w' ⟨rfl, hb'⟩)
    | (go_at_call 78; ((with_reducible refine (Cn3.out _ (below_tr hB0 (by assumption : _ ∧ _ ∧ _ ∧ _ ∧ _ ∧ _ ∧ _ ∧ Below W0.heap.size W0 _).2.2.2.2.2.2.2)).mono ?_); rintro e w' ⟨rfl, hb'⟩))
    | (go_at_call 78; ((with_reducible refine (Cn4.out _ (below_tr hB0 (by assumption : _ ∧ _ ∧ _ ∧ _ ∧ _ ∧ _ ∧ _ ∧ Below W0.heap.size W0 _).2.2.2.2.2.2.2)).mono ?_); rintro e w' ⟨rfl, hb'⟩))
    | (go_at_call 76; refine (int_any _ _ (by assumption)).mono ?_; rintro e w' ⟨rfl, hb'⟩)
    | (go_at_call 80; refine (truth_any _ _).mono ?_; rintro e w' ⟨rfl, hb'⟩))
  have hBy := (by assumption : _ ∧ _ ∧ _ ∧ _ ∧ _ ∧ _ ∧ _ ∧ Below W0.heap.size W0 _).2.2.2.2.2.2.2
  go_wp2_with fail
  go_ret
  exact ⟨by rw [HR.out]; rfl, hB0.trans (hBy.mono hB0.size)⟩
end Go.Proofs.YtcbnmoghjhljbaaGreat
end
section
namespace Go.Proofs.YtcbnmoghjhljbaaGreat
open Go.RowKit Go.Proofs.Mem
set_option linter.unusedVariables false
set_option linter.unusedSimpArgs false
set_option maxHeartbeats 4000000 in
set_option maxRecDepth 100000 in
theorem object_gr (o : Ob) (w : World) (hk : o.kind = 3) (ho : o.g.Ok w) (hv : wfi .u64 o.version) (hn : s255 o.name) (hs : grS o.g) :
    Calls Tryz.prog 59 #[.agg o.cells.toArray] w fun e w' => e = .returned (.string (objB o)) ∧ Below w.heap.size w w' := by
  obtain ⟨kind, name, version, ⟨w0, w1, w2, w3, w4, w5, w6⟩, ⟨p0, p1, p2, p3, p4, p5, p6, p7, p8, p9⟩, ⟨n0, n1, n2, n3, n4, n5, n6⟩, ⟨g0, g1, g2, g3, g4, g5, g6, g7⟩, ⟨h0, h1, h2, h3, h4, ⟨h5, h6, h7⟩, ⟨h8, h9, h10⟩, h11⟩⟩ := o
  simp only at hk hn hs
  subst hk
  obtain ⟨ver, hver, rfl⟩ := u64_nat hv
  clear hv
  unfold s255 at hn
  obtain ⟨og0, og1, og2, og3, og4, og5, og6, og7⟩ := ho
  obtain ⟨tg5, tg6⟩ := hs
  simp only at og0 og1 og2 og3 og4 og5 og6 og7 tg5 tg6
  obtain ⟨g5v, g5l⟩ := g5
  obtain ⟨Ag5, cg5, eg5, _⟩ := id og5.1
  have eg5 : g5v = .slice Ag5 g5l.length cg5 := eg5
  subst eg5
  simp only at og5 tg5
  have Cg5 : Hid (∀ w1, Below w.heap.size w w1 → Calls Tryz.prog 78 #[.slice Ag5 g5l.length cg5] w1 fun e w' => e = .returned (.string (labsB g5l)) ∧ Below w1.heap.size w1 w') := Lib.hid (fun w1 hb => labels_any ⟨_, g5l⟩ w1 (og5.below hb) tg5)
  clear og5
  obtain ⟨g6v, g6l⟩ := g6
  obtain ⟨Ag6, cg6, eg6, _⟩ := id og6.1
  have eg6 : g6v = .slice Ag6 g6l.length cg6 := eg6
  subst eg6
  simp only at og6 tg6
  have Cg6 : Hid (∀ w1, Below w.heap.size w w1 → Calls Tryz.prog 78 #[.slice Ag6 g6l.length cg6] w1 fun e w' => e = .returned (.string (labsB g6l)) ∧ Below w1.heap.size w1 w') := Lib.hid (fun w1 hb => labels_any ⟨_, g6l⟩ w1 (og6.below hb) tg6)
  clear og6
  obtain ⟨q, hq⟩ : ∃ q, q = objB ⟨3, name, ver, ⟨w0, w1, w2, w3, w4, w5, w6⟩, ⟨p0, p1, p2, p3, p4, p5, p6, p7, p8, p9⟩, ⟨n0, n1, n2, n3, n4, n5, n6⟩, ⟨g0, g1, g2, g3, g4, ⟨.slice Ag5 g5l.length cg5, g5l⟩, ⟨.slice Ag6 g6l.length cg6, g6l⟩, g7⟩, ⟨h0, h1, h2, h3, h4, ⟨h5, h6, h7⟩, ⟨h8, h9, h10⟩, h11⟩⟩ := ⟨_, rfl⟩
  rw [← hq]
  have HQ : Hid (q = grB (putB 3 1 ++ textB name ++ putB ver 8) ⟨g0, g1, g2, g3, g4, ⟨.slice Ag5 g5l.length cg5, g5l⟩, ⟨.slice Ag6 g6l.length cg6, g6l⟩, g7⟩) := Lib.hid (by rw [hq]; rfl)
  clear hq
  simp only [Ob.cells, Wl.cells, Pd.cells, Nd.cells, Gr.cells, Hp.cells, List.cons_append, List.nil_append]
  have qh0 := putB_size 3 1
  have qh1 := textB_size name
  have qh2 := putB_size ver 8
  obtain ⟨sh1, eh1, zh1, kh1⟩ := cat_of (putB 3 1) (textB name) (by omega)
  obtain ⟨sh2, eh2, zh2, kh2⟩ := cat_of sh1 (putB ver 8) (by omega)
  have HSh : Hid (putB 3 1 ++ textB name ++ putB ver 8 = sh2) := Lib.hid (by show putB 3 1 ++ textB name ++ putB ver 8 = _; rw [eh2, eh1])
  have zlh : sh2.size ≤ 300 := by omega
  clear eh1 zh1 eh2 zh2 qh0 qh1 qh2
  have qb0 := putB_size (u64 g0) 8
  have qb1 := putB_size (u64 g1) 8
  have qb2 := putB_size (u64 g2) 8
  have qb3 := resB_size g3 g4
  have qb4 := labsB_le g5l (by assumption)
  have qb5 := labsB_le g6l (by assumption)
  have qb6 := putB_size (u64 g7) 8
  obtain ⟨sb0, eb0, zb0, kb0⟩ := cat_of sh2 (putB (u64 g0) 8) (by omega)
  obtain ⟨sb1, eb1, zb1, kb1⟩ := cat_of sb0 (putB (u64 g1) 8) (by omega)
  obtain ⟨sb2, eb2, zb2, kb2⟩ := cat_of sb1 (putB (u64 g2) 8) (by omega)
  obtain ⟨sb3, eb3, zb3, kb3⟩ := cat_of sb2 (resB g3 g4) (by omega)
  obtain ⟨sb4, eb4, zb4, kb4⟩ := cat_of sb3 (labsB g5l) (by omega)
  obtain ⟨sb5, eb5, zb5, kb5⟩ := cat_of sb4 (labsB g6l) (by omega)
  obtain ⟨sb6, eb6, zb6, kb6⟩ := cat_of sb5 (putB (u64 g7) 8) (by omega)
  have HSb : Hid (grB sh2 ⟨g0, g1, g2, g3, g4, ⟨.slice Ag5 g5l.length cg5, g5l⟩, ⟨.slice Ag6 g6l.length cg6, g6l⟩, g7⟩ = sb6) := Lib.hid (by show sh2 ++ putB (u64 g0) 8 ++ putB (u64 g1) 8 ++ putB (u64 g2) 8 ++ resB g3 g4 ++ labsB g5l ++ labsB g6l ++ putB (u64 g7) 8 = _; rw [eb6, eb5, eb4, eb3, eb2, eb1, eb0])
  have zlb : sb6.size ≤ 1000000 := by omega
  clear eb0 zb0 eb1 zb1 eb2 zb2 eb3 zb3 eb4 zb4 eb5 zb5 eb6 zb6 qb0 qb1 qb2 qb3 qb4 qb5 qb6
  have HR : Hid (q = sb6) := Lib.hid (by rw [HQ.out, HSh.out, HSb.out])
  clear HQ HSh HSb zlh zlb
  have hwr : IntKind.u64.wrap (3 : Int) = 3 := by decide
  have HP1 : Hid (∀ w1, Calls Tryz.prog 74 #[.int .u64 3, .int .i64 1] w1 fun e w' => e = .returned (.string (putB 3 1)) ∧ Below w1.heap.size w1 w') := Lib.hid (fun w1 => put6_any 3 1 w1 (by decide) (by decide))
  have HP8 : Hid (∀ w1, Calls Tryz.prog 74 #[.int .u64 ver, .int .i64 8] w1 fun e w' => e = .returned (.string (putB ver 8)) ∧ Below w1.heap.size w1 w') := Lib.hid (fun w1 => put6_any ver 8 w1 hver (by decide))
  clear hver
  go_enter Tryz.func59, Tryz.ntmps59
  go_wp2_with fail
  obtain ⟨Wb, hWb⟩ : ∃ Wb, Wb = w.alloc (.cells #[.int .i64 3, .string name, .int .u64 ver, .int .i64 w0, .int .i64 w1, .int .i64 w2, w3.v, w4.v, w5.v, .int .i64 w6, .string p0, .string p1, .int .i64 p2, .int .i64 p3, .int .i64 p4, .int .i64 p5, p6.v, p7.v, p8.v, .int .i64 p9, .string n0, .int .i64 n1, .int .i64 n2, n3.v, n4.v, .int .i64 n5, .bool n6, .int .i64 g0, .int .i64 g1, .int .i64 g2, .int .i64 g3, .int .i64 g4, .slice Ag5 g5l.length cg5, .slice Ag6 g6l.length cg6, .int .i64 g7, .string h0, .int .i64 h1, .int .i64 h2, h3.v, .int .i64 h4, .int .i64 h5, .int .i64 h6, h7.v, .int .i64 h8, .int .i64 h9, h10.v, h11.v] 56) := ⟨_, rfl⟩
  have hkb := Bk.new w 56 #[.int .i64 3, .string name, .int .u64 ver, .int .i64 w0, .int .i64 w1, .int .i64 w2, w3.v, w4.v, w5.v, .int .i64 w6, .string p0, .string p1, .int .i64 p2, .int .i64 p3, .int .i64 p4, .int .i64 p5, p6.v, p7.v, p8.v, .int .i64 p9, .string n0, .int .i64 n1, .int .i64 n2, n3.v, n4.v, .int .i64 n5, .bool n6, .int .i64 g0, .int .i64 g1, .int .i64 g2, .int .i64 g3, .int .i64 g4, .slice Ag5 g5l.length cg5, .slice Ag6 g6l.length cg6, .int .i64 g7, .string h0, .int .i64 h1, .int .i64 h2, h3.v, .int .i64 h4, .int .i64 h5, .int .i64 h6, h7.v, .int .i64 h8, .int .i64 h9, h10.v, h11.v]
  have hBb : Below w.heap.size w Wb := by rw [hWb]; exact below_al _ _
  rw [← hWb] at hkb ⊢
  have bc0 : Wb.cell? ⟨w.heap.size, 0, none⟩ = some (.int .i64 3) := hkb.cell 0
  have bc1 : Wb.cell? ⟨w.heap.size, 1, none⟩ = some (.string name) := hkb.cell 1
  have bc2 : Wb.cell? ⟨w.heap.size, 2, none⟩ = some (.int .u64 ver) := hkb.cell 2
  have bc27 : Wb.cell? ⟨w.heap.size, 27, none⟩ = some (.int .i64 g0) := hkb.cell 27
  have bc28 : Wb.cell? ⟨w.heap.size, 28, none⟩ = some (.int .i64 g1) := hkb.cell 28
  have bc29 : Wb.cell? ⟨w.heap.size, 29, none⟩ = some (.int .i64 g2) := hkb.cell 29
  have bc30 : Wb.cell? ⟨w.heap.size, 30, none⟩ = some (.int .i64 g3) := hkb.cell 30
  have bc31 : Wb.cell? ⟨w.heap.size, 31, none⟩ = some (.int .i64 g4) := hkb.cell 31
  have bc32 : Wb.cell? ⟨w.heap.size, 32, none⟩ = some (.slice Ag5 g5l.length cg5) := hkb.cell 32
  have bc33 : Wb.cell? ⟨w.heap.size, 33, none⟩ = some (.slice Ag6 g6l.length cg6) := hkb.cell 33
  have bc34 : Wb.cell? ⟨w.heap.size, 34, none⟩ = some (.int .i64 g7) := hkb.cell 34
  clear hWb hkb
  go_region_held3 (fun w' => w'.cell? ⟨w.heap.size, 0, none⟩ = some (.int .i64 3) ∧ w'.cell? ⟨w.heap.size, 1, none⟩ = some (.string name) ∧ w'.cell? ⟨w.heap.size, 2, none⟩ = some (.int .u64 ver) ∧ Below Wb.heap.size Wb w')
    (first | (have hB9 := below_tr (by assumption : _ ∧ _ ∧ _ ∧ Below Wb.heap.size Wb _).2.2.2 hb'; exact ⟨keep_cell hB9 bc0, keep_cell hB9 bc1, keep_cell hB9 bc2, hB9⟩) | (exact ⟨bc0, bc1, bc2, (Below.refl _ _).drew⟩)) (first
    | (go_at_call 74; ((with_reducible refine (HP1.out _).mono ?_); rintro e w' ⟨rfl, hb'⟩))
    | (go_at_call 75; refine (text_any _ _ (by assumption)).mono ?_; rintro e w' ⟨rfl, hb'⟩)
    | (go_at_call 74; ((with_reducible refine (HP8.out _).mono ?_); rintro e w' ⟨rfl, hb'⟩)))
  have hBz := (by assumption : _ ∧ _ ∧ _ ∧ Below Wb.heap.size Wb _).2.2.2
  obtain ⟨W1, hW1⟩ : ∃ W1, W1 = w' := ⟨_, rfl⟩
  subst hW1
  have hB1 := hBb.trans (hBz.mono hBb.size)
  have d0 := keep_cell hBz bc0
  have d27 := keep_cell hBz bc27
  have d28 := keep_cell hBz bc28
  have d29 := keep_cell hBz bc29
  have d30 := keep_cell hBz bc30
  have d31 := keep_cell hBz bc31
  have d32 := keep_cell hBz bc32
  have d33 := keep_cell hBz bc33
  have d34 := keep_cell hBz bc34
  clear hwr hBz hBb HP1 HP8 bc0 bc1 bc2 bc27 bc28 bc29 bc30 bc31 bc32 bc33 bc34
  go_wp2_with fail
  obtain ⟨W0, hW0⟩ : ∃ W0, W0 = W1.alloc (.cells #[.int .i64 g0, .int .i64 g1, .int .i64 g2, .int .i64 g3, .int .i64 g4, .slice Ag5 g5l.length cg5, .slice Ag6 g6l.length cg6, .int .i64 g7] 47) := ⟨_, rfl⟩
  have hk0 := Bk.new W1 47 #[.int .i64 g0, .int .i64 g1, .int .i64 g2, .int .i64 g3, .int .i64 g4, .slice Ag5 g5l.length cg5, .slice Ag6 g6l.length cg6, .int .i64 g7]
  have hA0 : Below W1.heap.size W1 W0 := by rw [hW0]; exact below_al _ _
  have hB0 : Below w.heap.size w W0 := hB1.trans (hA0.mono hB1.size)
  rw [← hW0] at hk0 ⊢
  have c0 : W0.cell? ⟨W1.heap.size, 0, none⟩ = some (.int .i64 g0) := hk0.cell 0
  have c1 : W0.cell? ⟨W1.heap.size, 1, none⟩ = some (.int .i64 g1) := hk0.cell 1
  have c2 : W0.cell? ⟨W1.heap.size, 2, none⟩ = some (.int .i64 g2) := hk0.cell 2
  have c3 : W0.cell? ⟨W1.heap.size, 3, none⟩ = some (.int .i64 g3) := hk0.cell 3
  have c4 : W0.cell? ⟨W1.heap.size, 4, none⟩ = some (.int .i64 g4) := hk0.cell 4
  have c5 : W0.cell? ⟨W1.heap.size, 5, none⟩ = some (.slice Ag5 g5l.length cg5) := hk0.cell 5
  have c6 : W0.cell? ⟨W1.heap.size, 6, none⟩ = some (.slice Ag6 g6l.length cg6) := hk0.cell 6
  have c7 : W0.cell? ⟨W1.heap.size, 7, none⟩ = some (.int .i64 g7) := hk0.cell 7
  clear hW0 hk0 hA0 d0 d27 d28 d29 d30 d31 d32 d33 d34
  go_region_held3 (fun w' => w'.cell? ⟨W1.heap.size, 0, none⟩ = some (.int .i64 g0) ∧ w'.cell? ⟨W1.heap.size, 1, none⟩ = some (.int .i64 g1) ∧ w'.cell? ⟨W1.heap.size, 2, none⟩ = some (.int .i64 g2) ∧ w'.cell? ⟨W1.heap.size, 3, none⟩ = some (.int .i64 g3) ∧ w'.cell? ⟨W1.heap.size, 4, none⟩ = some (.int .i64 g4) ∧ w'.cell? ⟨W1.heap.size, 5, none⟩ = some (.slice Ag5 g5l.length cg5) ∧ w'.cell? ⟨W1.heap.size, 6, none⟩ = some (.slice Ag6 g6l.length cg6) ∧ w'.cell? ⟨W1.heap.size, 7, none⟩ = some (.int .i64 g7) ∧ Below W0.heap.size W0 w')
    (first | (have hB9 := below_tr (by assumption : _ ∧ _ ∧ _ ∧ _ ∧ _ ∧ _ ∧ _ ∧ _ ∧ Below W0.heap.size W0 _).2.2.2.2.2.2.2.2 hb'; exact ⟨keep_cell hB9 c0, keep_cell hB9 c1, keep_cell hB9 c2, keep_cell hB9 c3, keep_cell hB9 c4, keep_cell hB9 c5, keep_cell hB9 c6, keep_cell hB9 c7, hB9⟩) | (exact ⟨c0, c1, c2, c3, c4, c5, c6, c7, (Below.refl _ _).drew⟩)) (first
    | (go_at_call 76; refine (int_any _ _ (by assumption)).mono ?_; rintro e w' ⟨rfl, hb'⟩)
    | (go_at_call 77; refine (resources_any _ _ _ (by assumption) (by assumption)).mono ?_; rintro e w' ⟨rfl, hb'⟩)
    | (go_at_call 78; ((with_reducible refine (Cg5.out _ (below_tr hB0 (by assumption : _ ∧ _ ∧ _ ∧ _ ∧ _ ∧ _ ∧ _ ∧ _ ∧ Below W0.heap.size W0 _).2.2.2.2.2.2.2.2)).mono ?_); rintro e w' ⟨rfl, hb'⟩))
    | (go_at_call 78; ((with_reducible refine (Cg6.out _ (below_tr hB0 (by assumption : _ ∧ _ ∧ _ ∧ _ ∧ _ ∧ _ ∧ _ ∧ _ ∧ Below W0.heap.size W0 _).2.2.2.2.2.2.2.2)).mono ?_); rintro e w' ⟨rfl, hb'⟩)))
  have hBy := (by assumption : _ ∧ _ ∧ _ ∧ _ ∧ _ ∧ _ ∧ _ ∧ _ ∧ Below W0.heap.size W0 _).2.2.2.2.2.2.2.2
  go_wp2_with fail
  go_ret
  exact ⟨by rw [HR.out]; rfl, hB0.trans (hBy.mono hB0.size)⟩
end Go.Proofs.YtcbnmoghjhljbaaGreat
end
section
namespace Go.Proofs.YtcbnmoghjhljbaaGreat
open Go.RowKit Go.Proofs.Mem
set_option linter.unusedVariables false
set_option linter.unusedSimpArgs false
set_option maxHeartbeats 8000000 in
set_option maxRecDepth 100000 in
theorem object_hp (o : Ob) (w : World) (hk : o.kind = 4) (ho : o.h.Ok w) (hv : wfi .u64 o.version) (hn : s255 o.name) (hs : HpS o.h) :
    Calls Tryz.prog 59 #[.agg o.cells.toArray] w fun e w' => e = .returned (.string (objB o)) ∧ Below w.heap.size w w' := by
  obtain ⟨kind, name, version, ⟨w0, w1, w2, w3, w4, w5, w6⟩, ⟨p0, p1, p2, p3, p4, p5, p6, p7, p8, p9⟩, ⟨n0, n1, n2, n3, n4, n5, n6⟩, ⟨g0, g1, g2, g3, g4, g5, g6, g7⟩, ⟨h0, h1, h2, h3, h4, ⟨h5, h6, h7⟩, ⟨h8, h9, h10⟩, h11⟩⟩ := o
  simp only at hk hn hs
  subst hk
  obtain ⟨ver, hver, rfl⟩ := u64_nat hv
  clear hv
  unfold s255 at hn
  obtain ⟨_, oh1, oh2, oh3, oh4, ou, od, oh11⟩ := ho
  obtain ⟨th0, th3, tm3, tu, td, th11⟩ := hs
  simp only at oh1 oh2 oh3 oh4 ou od oh11 th0 th3 tm3 tu td th11
  unfold s255 at th0
  obtain ⟨h3v, h3l⟩ := h3
  obtain ⟨Ah3, ch3, eh3, _⟩ := id oh3.1
  have eh3 : h3v = .slice Ah3 h3l.length ch3 := eh3
  subst eh3
  simp only at oh3 th3
  obtain ⟨h11v, h11l⟩ := h11
  obtain ⟨Ah11, ch11, eh11, _⟩ := id oh11.1
  have eh11 : h11v = .slice Ah11 h11l.length ch11 := eh11
  subst eh11
  simp only at oh11 th11
  simp only at tm3
  obtain ⟨h7v, h7l⟩ := h7
  obtain ⟨Ah7, ch7, eh7, _⟩ := id ou.policies.1
  have eh7 : h7v = .slice Ah7 h7l.length ch7 := eh7
  subst eh7
  obtain ⟨h10v, h10l⟩ := h10
  obtain ⟨Ah10, ch10, eh10, _⟩ := id od.policies.1
  have eh10 : h10v = .slice Ah10 h10l.length ch10 := eh10
  subst eh10
  obtain ⟨hl3, _, hwf3⟩ := oh3
  obtain ⟨hl11, _, hwf11⟩ := oh11
  simp only at hl3 hwf3 hl11 hwf11
  have ok3 : True ∧ ∀ x ∈ h3l, x.Wf ∧ metSx x := ⟨trivial, fun x hx => ⟨hwf3 x hx, tm3 x hx⟩⟩
  have ok11 : True ∧ ∀ x ∈ h11l, x.Wf ∧ doneSx x := ⟨trivial, fun x hx => ⟨hwf11 x hx, trivial⟩⟩
  clear hwf3 hwf11 tm3
  obtain ⟨ub, hub⟩ : ∃ s, s = bhB ⟨h5, h6, ⟨.slice Ah7 h7l.length ch7, h7l⟩⟩ := ⟨_, rfl⟩
  obtain ⟨db, hdb⟩ : ∃ s, s = bhB ⟨h8, h9, ⟨.slice Ah10 h10l.length ch10, h10l⟩⟩ := ⟨_, rfl⟩
  have zu : ub.size ≤ 5000 := by rw [hub]; exact bhB_le _ tu
  have zd : db.size ≤ 5000 := by rw [hdb]; exact bhB_le _ td
  have Cu : Hid (∀ w1, Below w.heap.size w w1 → Calls Tryz.prog 81 #[.agg #[.int .i64 h5, .int .i64 h6, .slice Ah7 h7l.length ch7]] w1 fun e w' => e = .returned (.string ub) ∧ Below w1.heap.size w1 w') := Lib.hid (fun w1 hb => by rw [hub]; exact behavior_any ⟨h5, h6, ⟨.slice Ah7 h7l.length ch7, h7l⟩⟩ w1 (ou.below hb) tu)
  have Cd : Hid (∀ w1, Below w.heap.size w w1 → Calls Tryz.prog 81 #[.agg #[.int .i64 h8, .int .i64 h9, .slice Ah10 h10l.length ch10]] w1 fun e w' => e = .returned (.string db) ∧ Below w1.heap.size w1 w') := Lib.hid (fun w1 hb => by rw [hdb]; exact behavior_any ⟨h8, h9, ⟨.slice Ah10 h10l.length ch10, h10l⟩⟩ w1 (od.below hb) td)
  clear ou od tu td
  obtain ⟨q, hq⟩ : ∃ q, q = objB ⟨4, name, ver, ⟨w0, w1, w2, w3, w4, w5, w6⟩, ⟨p0, p1, p2, p3, p4, p5, p6, p7, p8, p9⟩, ⟨n0, n1, n2, n3, n4, n5, n6⟩, ⟨g0, g1, g2, g3, g4, g5, g6, g7⟩, ⟨h0, h1, h2, ⟨.slice Ah3 h3l.length ch3, h3l⟩, h4, ⟨h5, h6, ⟨.slice Ah7 h7l.length ch7, h7l⟩⟩, ⟨h8, h9, ⟨.slice Ah10 h10l.length ch10, h10l⟩⟩, ⟨.slice Ah11 h11l.length ch11, h11l⟩⟩⟩ := ⟨_, rfl⟩
  rw [← hq]
  have HQ : Hid (q = doneF (metF (putB 4 1 ++ textB name ++ putB ver 8 ++ textB h0 ++ putB (u64 h1) 8 ++ putB (u64 h2) 8 ++ putB h3l.length 1) h3l ++ putB (u64 h4) 8 ++ ub ++ db ++ putB h11l.length 1) h11l) := Lib.hid (by rw [hq, hub, hdb]; rfl)
  clear hq hub hdb
  simp only [Ob.cells, Wl.cells, Pd.cells, Nd.cells, Gr.cells, Hp.cells, List.cons_append, List.nil_append]
  have qh0 := putB_size 4 1
  have qh1 := textB_size name
  have qh2 := putB_size ver 8
  have qh3 := textB_size h0
  have qh4 := putB_size (u64 h1) 8
  have qh5 := putB_size (u64 h2) 8
  have qh6 := putB_size h3l.length 1
  obtain ⟨sh1, eh1, zh1, kh1⟩ := cat_of (putB 4 1) (textB name) (by omega)
  obtain ⟨sh2, eh2, zh2, kh2⟩ := cat_of sh1 (putB ver 8) (by omega)
  obtain ⟨sh3, eh3, zh3, kh3⟩ := cat_of sh2 (textB h0) (by omega)
  obtain ⟨sh4, eh4, zh4, kh4⟩ := cat_of sh3 (putB (u64 h1) 8) (by omega)
  obtain ⟨sh5, eh5, zh5, kh5⟩ := cat_of sh4 (putB (u64 h2) 8) (by omega)
  obtain ⟨sh6, eh6, zh6, kh6⟩ := cat_of sh5 (putB h3l.length 1) (by omega)
  have HSh : Hid (putB 4 1 ++ textB name ++ putB ver 8 ++ textB h0 ++ putB (u64 h1) 8 ++ putB (u64 h2) 8 ++ putB h3l.length 1 = sh6) := Lib.hid (by show putB 4 1 ++ textB name ++ putB ver 8 ++ textB h0 ++ putB (u64 h1) 8 ++ putB (u64 h2) 8 ++ putB h3l.length 1 = _; rw [eh6, eh5, eh4, eh3, eh2, eh1])
  have zlh : sh6.size ≤ 600 := by omega
  clear eh1 zh1 eh2 zh2 eh3 zh3 eh4 zh4 eh5 zh5 eh6 zh6 qh0 qh1 qh2 qh3 qh4 qh5 qh6
  have HQ2 : Hid (q = doneF (metF sh6 h3l ++ putB (u64 h4) 8 ++ ub ++ db ++ putB h11l.length 1) h11l) := Lib.hid (by rw [HQ.out, HSh.out])
  clear HQ HSh
  have hms : (metF sh6 h3l).size ≤ 100000 := by
    have := metF_size sh6 h3l (fun x hx => (ok3.2 x hx).2)
    omega
  obtain ⟨mb, hmb⟩ : ∃ s, s = metF sh6 h3l := ⟨_, rfl⟩
  rw [← hmb] at HQ2 hms
  have qb0 := putB_size (u64 h4) 8
  have qb1 := zu
  have qb2 := zd
  have qb3 := putB_size h11l.length 1
  obtain ⟨sb0, eb0, zb0, kb0⟩ := cat_of mb (putB (u64 h4) 8) (by omega)
  obtain ⟨sb1, eb1, zb1, kb1⟩ := cat_of sb0 (ub) (by omega)
  obtain ⟨sb2, eb2, zb2, kb2⟩ := cat_of sb1 (db) (by omega)
  obtain ⟨sb3, eb3, zb3, kb3⟩ := cat_of sb2 (putB h11l.length 1) (by omega)
  have HSb : Hid (mb ++ putB (u64 h4) 8 ++ ub ++ db ++ putB h11l.length 1 = sb3) := Lib.hid (by show mb ++ putB (u64 h4) 8 ++ ub ++ db ++ putB h11l.length 1 = _; rw [eb3, eb2, eb1, eb0])
  have zlb : sb3.size ≤ 200000 := by omega
  clear eb0 zb0 eb1 zb1 eb2 zb2 eb3 zb3 qb0 qb1 qb2 qb3
  have HR : Hid (q = doneF sb3 h11l) := Lib.hid (by rw [HQ2.out, HSb.out])
  have HMB := Lib.hid hmb
  clear HQ2 HSb hmb
  have hwr : IntKind.u64.wrap (4 : Int) = 4 := by decide
  have HP1 : Hid (∀ w1, Calls Tryz.prog 74 #[.int .u64 4, .int .i64 1] w1 fun e w' => e = .returned (.string (putB 4 1)) ∧ Below w1.heap.size w1 w') := Lib.hid (fun w1 => put6_any 4 1 w1 (by decide) (by decide))
  have HP8 : Hid (∀ w1, Calls Tryz.prog 74 #[.int .u64 ver, .int .i64 8] w1 fun e w' => e = .returned (.string (putB ver 8)) ∧ Below w1.heap.size w1 w') := Lib.hid (fun w1 => put6_any ver 8 w1 hver (by decide))
  clear hver
  go_enter Tryz.func59, Tryz.ntmps59
  go_wp2_with fail
  obtain ⟨Wb, hWb⟩ : ∃ Wb, Wb = w.alloc (.cells #[.int .i64 4, .string name, .int .u64 ver, .int .i64 w0, .int .i64 w1, .int .i64 w2, w3.v, w4.v, w5.v, .int .i64 w6, .string p0, .string p1, .int .i64 p2, .int .i64 p3, .int .i64 p4, .int .i64 p5, p6.v, p7.v, p8.v, .int .i64 p9, .string n0, .int .i64 n1, .int .i64 n2, n3.v, n4.v, .int .i64 n5, .bool n6, .int .i64 g0, .int .i64 g1, .int .i64 g2, .int .i64 g3, .int .i64 g4, g5.v, g6.v, .int .i64 g7, .string h0, .int .i64 h1, .int .i64 h2, .slice Ah3 h3l.length ch3, .int .i64 h4, .int .i64 h5, .int .i64 h6, .slice Ah7 h7l.length ch7, .int .i64 h8, .int .i64 h9, .slice Ah10 h10l.length ch10, .slice Ah11 h11l.length ch11] 56) := ⟨_, rfl⟩
  have hkb := Bk.new w 56 #[.int .i64 4, .string name, .int .u64 ver, .int .i64 w0, .int .i64 w1, .int .i64 w2, w3.v, w4.v, w5.v, .int .i64 w6, .string p0, .string p1, .int .i64 p2, .int .i64 p3, .int .i64 p4, .int .i64 p5, p6.v, p7.v, p8.v, .int .i64 p9, .string n0, .int .i64 n1, .int .i64 n2, n3.v, n4.v, .int .i64 n5, .bool n6, .int .i64 g0, .int .i64 g1, .int .i64 g2, .int .i64 g3, .int .i64 g4, g5.v, g6.v, .int .i64 g7, .string h0, .int .i64 h1, .int .i64 h2, .slice Ah3 h3l.length ch3, .int .i64 h4, .int .i64 h5, .int .i64 h6, .slice Ah7 h7l.length ch7, .int .i64 h8, .int .i64 h9, .slice Ah10 h10l.length ch10, .slice Ah11 h11l.length ch11]
  have hBb : Below w.heap.size w Wb := by rw [hWb]; exact below_al _ _
  rw [← hWb] at hkb ⊢
  have bc0 : Wb.cell? ⟨w.heap.size, 0, none⟩ = some (.int .i64 4) := hkb.cell 0
  have bc1 : Wb.cell? ⟨w.heap.size, 1, none⟩ = some (.string name) := hkb.cell 1
  have bc2 : Wb.cell? ⟨w.heap.size, 2, none⟩ = some (.int .u64 ver) := hkb.cell 2
  have bc35 : Wb.cell? ⟨w.heap.size, 35, none⟩ = some (.string h0) := hkb.cell 35
  have bc36 : Wb.cell? ⟨w.heap.size, 36, none⟩ = some (.int .i64 h1) := hkb.cell 36
  have bc37 : Wb.cell? ⟨w.heap.size, 37, none⟩ = some (.int .i64 h2) := hkb.cell 37
  have bc38 : Wb.cell? ⟨w.heap.size, 38, none⟩ = some (.slice Ah3 h3l.length ch3) := hkb.cell 38
  have bc39 : Wb.cell? ⟨w.heap.size, 39, none⟩ = some (.int .i64 h4) := hkb.cell 39
  have bc40 : Wb.cell? ⟨w.heap.size, 40, none⟩ = some (.int .i64 h5) := hkb.cell 40
  have bc41 : Wb.cell? ⟨w.heap.size, 41, none⟩ = some (.int .i64 h6) := hkb.cell 41
  have bc42 : Wb.cell? ⟨w.heap.size, 42, none⟩ = some (.slice Ah7 h7l.length ch7) := hkb.cell 42
  have bc43 : Wb.cell? ⟨w.heap.size, 43, none⟩ = some (.int .i64 h8) := hkb.cell 43
  have bc44 : Wb.cell? ⟨w.heap.size, 44, none⟩ = some (.int .i64 h9) := hkb.cell 44
  have bc45 : Wb.cell? ⟨w.heap.size, 45, none⟩ = some (.slice Ah10 h10l.length ch10) := hkb.cell 45
  have bc46 : Wb.cell? ⟨w.heap.size, 46, none⟩ = some (.slice Ah11 h11l.length ch11) := hkb.cell 46
  clear hWb hkb
  go_region_held3 (fun w' => w'.cell? ⟨w.heap.size, 0, none⟩ = some (.int .i64 4) ∧ w'.cell? ⟨w.heap.size, 1, none⟩ = some (.string name) ∧ w'.cell? ⟨w.heap.size, 2, none⟩ = some (.int .u64 ver) ∧ Below Wb.heap.size Wb w')
    (first | (have hB9 := below_tr (by assumption : _ ∧ _ ∧ _ ∧ Below Wb.heap.size Wb _).2.2.2 hb'; exact ⟨keep_cell hB9 bc0, keep_cell hB9 bc1, keep_cell hB9 bc2, hB9⟩) | (exact ⟨bc0, bc1, bc2, (Below.refl _ _).drew⟩)) (first
    | (go_at_call 74; ((with_reducible refine (HP1.out _).mono ?_); rintro e w' ⟨rfl, hb'⟩))
    | (go_at_call 75; refine (text_any _ _ (by assumption)).mono ?_; rintro e w' ⟨rfl, hb'⟩)
    | (go_at_call 74; ((with_reducible refine (HP8.out _).mono ?_); rintro e w' ⟨rfl, hb'⟩)))
  have hBz := (by assumption : _ ∧ _ ∧ _ ∧ Below Wb.heap.size Wb _).2.2.2
  obtain ⟨W1, hW1⟩ : ∃ W1, W1 = w' := ⟨_, rfl⟩
  subst hW1
  have hB1 := hBb.trans (hBz.mono hBb.size)
  have d0 := keep_cell hBz bc0
  have d35 := keep_cell hBz bc35
  have d36 := keep_cell hBz bc36
  have d37 := keep_cell hBz bc37
  have d38 := keep_cell hBz bc38
  have d39 := keep_cell hBz bc39
  have d40 := keep_cell hBz bc40
  have d41 := keep_cell hBz bc41
  have d42 := keep_cell hBz bc42
  have d43 := keep_cell hBz bc43
  have d44 := keep_cell hBz bc44
  have d45 := keep_cell hBz bc45
  have d46 := keep_cell hBz bc46
  clear hwr hBz hBb HP1 HP8 bc0 bc1 bc2 bc35 bc36 bc37 bc38 bc39 bc40 bc41 bc42 bc43 bc44 bc45 bc46
  go_wp2_with fail
  obtain ⟨W0, hW0⟩ : ∃ W0, W0 = W1.alloc (.cells #[.string h0, .int .i64 h1, .int .i64 h2, .slice Ah3 h3l.length ch3, .int .i64 h4, .int .i64 h5, .int .i64 h6, .slice Ah7 h7l.length ch7, .int .i64 h8, .int .i64 h9, .slice Ah10 h10l.length ch10, .slice Ah11 h11l.length ch11] 54) := ⟨_, rfl⟩
  have hk0 := Bk.new W1 54 #[.string h0, .int .i64 h1, .int .i64 h2, .slice Ah3 h3l.length ch3, .int .i64 h4, .int .i64 h5, .int .i64 h6, .slice Ah7 h7l.length ch7, .int .i64 h8, .int .i64 h9, .slice Ah10 h10l.length ch10, .slice Ah11 h11l.length ch11]
  have hA0 : Below W1.heap.size W1 W0 := by rw [hW0]; exact below_al _ _
  have hB0 : Below w.heap.size w W0 := hB1.trans (hA0.mono hB1.size)
  rw [← hW0] at hk0 ⊢
  have c0 : W0.cell? ⟨W1.heap.size, 0, none⟩ = some (.string h0) := hk0.cell 0
  have c1 : W0.cell? ⟨W1.heap.size, 1, none⟩ = some (.int .i64 h1) := hk0.cell 1
  have c2 : W0.cell? ⟨W1.heap.size, 2, none⟩ = some (.int .i64 h2) := hk0.cell 2
  have c3 : W0.cell? ⟨W1.heap.size, 3, none⟩ = some (.slice Ah3 h3l.length ch3) := hk0.cell 3
  have c4 : W0.cell? ⟨W1.heap.size, 4, none⟩ = some (.int .i64 h4) := hk0.cell 4
  have c5 : W0.cell? ⟨W1.heap.size, 5, none⟩ = some (.int .i64 h5) := hk0.cell 5
  have c6 : W0.cell? ⟨W1.heap.size, 6, none⟩ = some (.int .i64 h6) := hk0.cell 6
  have c7 : W0.cell? ⟨W1.heap.size, 7, none⟩ = some (.slice Ah7 h7l.length ch7) := hk0.cell 7
  have c8 : W0.cell? ⟨W1.heap.size, 8, none⟩ = some (.int .i64 h8) := hk0.cell 8
  have c9 : W0.cell? ⟨W1.heap.size, 9, none⟩ = some (.int .i64 h9) := hk0.cell 9
  have c10 : W0.cell? ⟨W1.heap.size, 10, none⟩ = some (.slice Ah10 h10l.length ch10) := hk0.cell 10
  have c11 : W0.cell? ⟨W1.heap.size, 11, none⟩ = some (.slice Ah11 h11l.length ch11) := hk0.cell 11
  clear hW0 hk0 hA0 d0 d35 d36 d37 d38 d39 d40 d41 d42 d43 d44 d45 d46
  have hwr := wrap_len h3l.length th3
  go_region_held3 (fun w' => w'.cell? ⟨W1.heap.size, 0, none⟩ = some (.string h0) ∧ w'.cell? ⟨W1.heap.size, 1, none⟩ = some (.int .i64 h1) ∧ w'.cell? ⟨W1.heap.size, 2, none⟩ = some (.int .i64 h2) ∧ w'.cell? ⟨W1.heap.size, 3, none⟩ = some (.slice Ah3 h3l.length ch3) ∧ Below W0.heap.size W0 w')
    (first | (have hB9 := below_tr (by assumption : _ ∧ _ ∧ _ ∧ _ ∧ Below W0.heap.size W0 _).2.2.2.2 hb'; exact ⟨keep_cell hB9 c0, keep_cell hB9 c1, keep_cell hB9 c2, keep_cell hB9 c3, hB9⟩) | (exact ⟨c0, c1, c2, c3, (Below.refl _ _).drew⟩)) (first
    | (go_at_call 75; refine (text_any _ _ (by assumption)).mono ?_; rintro e w' ⟨rfl, hb'⟩)
    | (go_at_call 76; refine (int_any _ _ (by assumption)).mono ?_; rintro e w' ⟨rfl, hb'⟩)
    | (go_at_call 74; refine (put6_any _ 1 _ (by omega) (by omega)).mono ?_; rintro e w' ⟨rfl, hb'⟩))
  have hBy := (by assumption : _ ∧ _ ∧ _ ∧ _ ∧ Below W0.heap.size W0 _).2.2.2.2
  obtain ⟨W2, hW2⟩ : ∃ W2, W2 = w' := ⟨_, rfl⟩
  subst hW2
  have hB2 : Below w.heap.size w W2 := hB0.trans (hBy.mono hB0.size)
  have hl3' := hl3.below hB2
  have d3 := keep_cell hBy c3
  have d4 := keep_cell hBy c4
  have d5 := keep_cell hBy c5
  have d6 := keep_cell hBy c6
  have d7 := keep_cell hBy c7
  have d8 := keep_cell hBy c8
  have d9 := keep_cell hBy c9
  have d10 := keep_cell hBy c10
  have d11 := keep_cell hBy c11
  clear hwr hBy hB0 c0 c1 c2 c3 c4 c5 c6 c7 c8 c9 c10 c11
  have hB22 := Below.refl W2.heap.size W2
  go_wp2_with fail
  go_loopw [183, 3, 10] (fun i s p wr => ∃ k : Nat, k ≤ h3l.length ∧ i = .int .i64 k ∧ s = .string (metF sh6 (h3l.take k)) ∧ Below W2.heap.size W2 wr) (fun i s p wr => h3l.length - (intOf i).toNat)
  case atStart => exact ⟨0, Nat.zero_le _, rfl, rfl, hB22⟩
  case round =>
    obtain ⟨k, hk, rfl, rfl, hB⟩ := hrel
    by_cases hlt : k < h3l.length
    · obtain ⟨b, o, rfl, hbl, hadd, hcell⟩ := Sl.row' (s := 3) (f := Met.cells) (fun _ => rfl) (by omega) (hl3'.below hB) k hlt
      have a0 : wr.cell? ⟨b, o + k * 3, none⟩ = _ := hcell 0 _ rfl
      have a1 := hcell 1 _ rfl
      have a2 := hcell 2 _ rfl
      have hsz := (metF_size sh6 (h3l.take k) (fun x hx' => (ok3.2 x (List.mem_of_mem_take hx')).2))
      have hlen : (h3l.take k).length = k := by simp; omega
      have hx2 := ok3.2 _ (List.getElem_mem hlt)
      have hsn := metF_snoc sh6 (h3l.take k) h3l[k]
      rw [← List.take_succ_eq_append_getElem hlt] at hsn
      rw [hlen] at hsz
      have HS := Lib.hid hsn
      clear hsn hcell hlen
      generalize metF sh6 (h3l.take k) = out at hsz HS ⊢
      generalize h3l[k] = x at a0 a1 a2 hx2 HS
      obtain ⟨x0, x1, x2⟩ := x
      obtain ⟨hw2, hx2⟩ := hx2
      simp only [Met.Wf, metSx] at a0 a1 a2 HS hw2 hx2
      try unfold s255 at hx2
      obtain ⟨hw2a, hw2c, hw2b⟩ := hw2
      have qx0 := putB_size (u64 x0) 8
      have qx1 := textB_size x1
      have qx2 := putB_size (u64 x2) 8
      obtain ⟨sx0, ex0, zx0, kx0⟩ := cat_of out (putB (u64 x0) 8) (by omega)
      obtain ⟨sx1, ex1, zx1, kx1⟩ := cat_of sx0 (textB x1) (by omega)
      obtain ⟨sx2, ex2, zx2, kx2⟩ := cat_of sx1 (putB (u64 x2) 8) (by omega)
      have HSx : Hid (metF sh6 (h3l.take (k + 1)) = sx2) := Lib.hid (by rw [HS.out]; show out ++ putB (u64 x0) 8 ++ textB x1 ++ putB (u64 x2) 8 = _; rw [ex2, ex1, ex0])
      have zlx : sx2.size ≤ 1000000 := by omega
      clear ex0 zx0 ex1 zx1 ex2 zx2 qx0 qx1 qx2
      clear HS zlx
      go_wp2_with fail
      obtain ⟨W0, hW0⟩ : ∃ W0, W0 = wr.alloc (.cells #[.int .i64 x0, .string x1, .int .i64 x2] 128) := ⟨_, rfl⟩
      have hk0 := Bk.new wr 128 #[.int .i64 x0, .string x1, .int .i64 x2]
      have hB0 : Below W2.heap.size W2 W0 := by rw [hW0]; exact hB.alloc hB.size _
      rw [← hW0] at hk0 ⊢
      have c0 : W0.cell? ⟨wr.heap.size, 0, none⟩ = some (.int .i64 x0) := hk0.cell 0
      have c1 : W0.cell? ⟨wr.heap.size, 1, none⟩ = some (.string x1) := hk0.cell 1
      have c2 : W0.cell? ⟨wr.heap.size, 2, none⟩ = some (.int .i64 x2) := hk0.cell 2
      clear hW0 hk0
      go_region_held3 (fun w' => w'.cell? ⟨wr.heap.size, 0, none⟩ = some (.int .i64 x0) ∧ w'.cell? ⟨wr.heap.size, 1, none⟩ = some (.string x1) ∧ w'.cell? ⟨wr.heap.size, 2, none⟩ = some (.int .i64 x2) ∧ Below W0.heap.size W0 w')
        (first | (have hB9 := below_tr (by assumption : _ ∧ _ ∧ _ ∧ Below W0.heap.size W0 _).2.2.2 hb'; exact ⟨keep_cell hB9 c0, keep_cell hB9 c1, keep_cell hB9 c2, hB9⟩) | (exact ⟨c0, c1, c2, (Below.refl _ _).drew⟩)) (first
        | (go_at_call 76; refine (int_any _ _ (by assumption)).mono ?_; rintro e w' ⟨rfl, hb'⟩)
        | (go_at_call 75; refine (text_any _ _ (by assumption)).mono ?_; rintro e w' ⟨rfl, hb'⟩))
      have hBz := (by assumption : _ ∧ _ ∧ _ ∧ Below W0.heap.size W0 _).2.2.2
      go_wp2_with fail
      exact ⟨⟨k + 1, by omega, by go_num, by rw [HSx.out], hB0.trans (hBz.mono hB0.size)⟩, by simp [intOf]; omega⟩
    · rw [List.take_of_length_le (show h3l.length ≤ k by omega)]
      rw [← HMB.out]
      obtain ⟨W3, hW3⟩ : ∃ W3, W3 = wr := ⟨_, rfl⟩
      subst hW3
      have c4 := keep_cell hB d4
      have c5 := keep_cell hB d5
      have c6 := keep_cell hB d6
      have c7 := keep_cell hB d7
      have c8 := keep_cell hB d8
      have c9 := keep_cell hB d9
      have c10 := keep_cell hB d10
      have c11 := keep_cell hB d11
      have hBv : Below w.heap.size w W3 := hB2.trans (hB.mono hB2.size)
      have hl11' := hl11.below hBv
      clear d3 d4 d5 d6 d7 d8 d9 d10 d11
      have hwr := wrap_len h11l.length th11
      go_wp2_with fail
      go_region_held3 (fun w' => w'.cell? ⟨W1.heap.size, 4, none⟩ = some (.int .i64 h4) ∧ w'.cell? ⟨W1.heap.size, 5, none⟩ = some (.int .i64 h5) ∧ w'.cell? ⟨W1.heap.size, 6, none⟩ = some (.int .i64 h6) ∧ w'.cell? ⟨W1.heap.size, 7, none⟩ = some (.slice Ah7 h7l.length ch7) ∧ w'.cell? ⟨W1.heap.size, 8, none⟩ = some (.int .i64 h8) ∧ w'.cell? ⟨W1.heap.size, 9, none⟩ = some (.int .i64 h9) ∧ w'.cell? ⟨W1.heap.size, 10, none⟩ = some (.slice Ah10 h10l.length ch10) ∧ w'.cell? ⟨W1.heap.size, 11, none⟩ = some (.slice Ah11 h11l.length ch11) ∧ Below W3.heap.size W3 w')
        (first | (have hB9 := below_tr (by assumption : _ ∧ _ ∧ _ ∧ _ ∧ _ ∧ _ ∧ _ ∧ _ ∧ Below W3.heap.size W3 _).2.2.2.2.2.2.2.2 hb'; exact ⟨keep_cell hB9 c4, keep_cell hB9 c5, keep_cell hB9 c6, keep_cell hB9 c7, keep_cell hB9 c8, keep_cell hB9 c9, keep_cell hB9 c10, keep_cell hB9 c11, hB9⟩) | (exact ⟨c4, c5, c6, c7, c8, c9, c10, c11, (Below.refl _ _).drew⟩)) (first
        | (go_at_call 76; refine (int_any _ _ (by assumption)).mono ?_; rintro e w' ⟨rfl, hb'⟩)
        | (go_at_call 81; ((with_reducible refine (Cu.out _ (below_tr hBv (by assumption : _ ∧ _ ∧ _ ∧ _ ∧ _ ∧ _ ∧ _ ∧ _ ∧ Below W3.heap.size W3 _).2.2.2.2.2.2.2.2)).mono ?_); rintro e w' ⟨rfl, hb'⟩))
        | (go_at_call 81; ((with_reducible refine (Cd.out _ (below_tr hBv (by assumption : _ ∧ _ ∧ _ ∧ _ ∧ _ ∧ _ ∧ _ ∧ _ ∧ Below W3.heap.size W3 _).2.2.2.2.2.2.2.2)).mono ?_); rintro e w' ⟨rfl, hb'⟩))
        | (go_at_call 74; refine (put6_any _ 1 _ (by omega) (by omega)).mono ?_; rintro e w' ⟨rfl, hb'⟩))
      have hBy := (by assumption : _ ∧ _ ∧ _ ∧ _ ∧ _ ∧ _ ∧ _ ∧ _ ∧ Below W3.heap.size W3 _).2.2.2.2.2.2.2.2
      obtain ⟨W4, hW4⟩ : ∃ W4, W4 = w' := ⟨_, rfl⟩
      subst hW4
      have hB4 : Below w.heap.size w W4 := hBv.trans (hBy.mono hBv.size)
      have hl11'' := hl11.below hB4
      have d11 := keep_cell hBy c11
      clear hwr hBy c4 c5 c6 c7 c8 c9 c10 c11
      have hB44 := Below.refl W4.heap.size W4
      go_wp2_with fail
      go_loopw [223, 3, 12] (fun i s p wr => ∃ k : Nat, k ≤ h11l.length ∧ i = .int .i64 k ∧ s = .string (doneF sb3 (h11l.take k)) ∧ Below W4.heap.size W4 wr) (fun i s p wr => h11l.length - (intOf i).toNat)
      case atStart => exact ⟨0, Nat.zero_le _, rfl, rfl, hB44⟩
      case round =>
        obtain ⟨k, hk, rfl, rfl, hB⟩ := hrel
        by_cases hlt : k < h11l.length
        · obtain ⟨b, o, rfl, hbl, hadd, hcell⟩ := Sl.row' (s := 3) (f := Done.cells) (fun _ => rfl) (by omega) (hl11''.below hB) k hlt
          have a0 : wr.cell? ⟨b, o + k * 3, none⟩ = _ := hcell 0 _ rfl
          have a1 := hcell 1 _ rfl
          have a2 := hcell 2 _ rfl
          have hsz := (doneF_size sb3 (h11l.take k) (fun x hx' => (ok11.2 x (List.mem_of_mem_take hx')).2))
          have hlen : (h11l.take k).length = k := by simp; omega
          have hx2 := ok11.2 _ (List.getElem_mem hlt)
          have hsn := doneF_snoc sb3 (h11l.take k) h11l[k]
          rw [← List.take_succ_eq_append_getElem hlt] at hsn
          rw [hlen] at hsz
          have HS := Lib.hid hsn
          clear hsn hcell hlen
          generalize doneF sb3 (h11l.take k) = out at hsz HS ⊢
          generalize h11l[k] = x at a0 a1 a2 hx2 HS
          obtain ⟨x0, x1, x2⟩ := x
          obtain ⟨hw2, hx2⟩ := hx2
          simp only [Done.Wf, doneSx] at a0 a1 a2 HS hw2 hx2
          try unfold s255 at hx2
          obtain ⟨hw2a, hw2b, hw2c⟩ := hw2
          have qx0 := putB_size (u64 x0) 8
          have qx1 := putB_size (u64 x1) 8
          have qx2 := putB_size (u64 x2) 8
          obtain ⟨sx0, ex0, zx0, kx0⟩ := cat_of out (putB (u64 x0) 8) (by omega)
          obtain ⟨sx1, ex1, zx1, kx1⟩ := cat_of sx0 (putB (u64 x1) 8) (by omega)
          obtain ⟨sx2, ex2, zx2, kx2⟩ := cat_of sx1 (putB (u64 x2) 8) (by omega)
          have HSx : Hid (doneF sb3 (h11l.take (k + 1)) = sx2) := Lib.hid (by rw [HS.out]; show out ++ putB (u64 x0) 8 ++ putB (u64 x1) 8 ++ putB (u64 x2) 8 = _; rw [ex2, ex1, ex0])
          have zlx : sx2.size ≤ 1000000 := by omega
          clear ex0 zx0 ex1 zx1 ex2 zx2 qx0 qx1 qx2
          clear HS zlx
          go_wp2_with fail
          obtain ⟨W0, hW0⟩ : ∃ W0, W0 = wr.alloc (.cells #[.int .i64 x0, .int .i64 x1, .int .i64 x2] 134) := ⟨_, rfl⟩
          have hk0 := Bk.new wr 134 #[.int .i64 x0, .int .i64 x1, .int .i64 x2]
          have hB0 : Below W4.heap.size W4 W0 := by rw [hW0]; exact hB.alloc hB.size _
          rw [← hW0] at hk0 ⊢
          have c0 : W0.cell? ⟨wr.heap.size, 0, none⟩ = some (.int .i64 x0) := hk0.cell 0
          have c1 : W0.cell? ⟨wr.heap.size, 1, none⟩ = some (.int .i64 x1) := hk0.cell 1
          have c2 : W0.cell? ⟨wr.heap.size, 2, none⟩ = some (.int .i64 x2) := hk0.cell 2
          clear hW0 hk0
          go_region_held3 (fun w' => w'.cell? ⟨wr.heap.size, 0, none⟩ = some (.int .i64 x0) ∧ w'.cell? ⟨wr.heap.size, 1, none⟩ = some (.int .i64 x1) ∧ w'.cell? ⟨wr.heap.size, 2, none⟩ = some (.int .i64 x2) ∧ Below W0.heap.size W0 w')
            (first | (have hB9 := below_tr (by assumption : _ ∧ _ ∧ _ ∧ Below W0.heap.size W0 _).2.2.2 hb'; exact ⟨keep_cell hB9 c0, keep_cell hB9 c1, keep_cell hB9 c2, hB9⟩) | (exact ⟨c0, c1, c2, (Below.refl _ _).drew⟩)) (first
            | (go_at_call 76; refine (int_any _ _ (by assumption)).mono ?_; rintro e w' ⟨rfl, hb'⟩))
          have hBz := (by assumption : _ ∧ _ ∧ _ ∧ Below W0.heap.size W0 _).2.2.2
          go_wp2_with fail
          exact ⟨⟨k + 1, by omega, by go_num, by rw [HSx.out], hB0.trans (hBz.mono hB0.size)⟩, by simp [intOf]; omega⟩
        · rw [List.take_of_length_le (show h11l.length ≤ k by omega)]
          go_wp2_with fail
          go_ret
          exact ⟨by rw [HR.out]; rfl, hB4.trans (hB.mono hB4.size)⟩
end Go.Proofs.YtcbnmoghjhljbaaGreat
end
section
namespace Go.Proofs.YtcbnmoghjhljbaaGreat
open Go.RowKit Go.Proofs.Mem Go.Sort
set_option linter.unusedVariables false
set_option linter.unusedSimpArgs false
def ObS (o : Ob) : Prop := s255 o.name ∧ (o.kind = 0 → wlS o.w) ∧ (o.kind = 1 → pdS o.p) ∧ (o.kind = 2 → ndS o.n) ∧ (o.kind = 3 → grS o.g) ∧ (o.kind = 4 → HpS o.h)
theorem object_any (o : Ob) (w : World) (hk : 0 ≤ o.kind ∧ o.kind ≤ 4) (ho : o.Ok w) (hs : ObS o) :
    Calls Tryz.prog 59 #[.agg o.cells.toArray] w fun e w' => e = .returned (.string (objB o)) ∧ Below w.heap.size w w' := by
  obtain ⟨hn, h0, h1, h2, h3, h4⟩ := hs
  have hc : o.kind = 0 ∨ o.kind = 1 ∨ o.kind = 2 ∨ o.kind = 3 ∨ o.kind = 4 := by omega
  rcases hc with hc | hc | hc | hc | hc
  · exact object_wl o w hc ho.w ho.version hn (h0 hc)
  · exact object_pd o w hc ho.p ho.version hn (h1 hc)
  · exact object_nd o w hc ho.n ho.version hn (h2 hc)
  · exact object_gr o w hc ho.g ho.version hn (h3 hc)
  · exact object_hp o w hc ho.h ho.version hn (h4 hc)
theorem ob_cells (o : Ob) : ∃ x1 x2 x3 x4 x5 x6 x7 x8 x9 x10 x11 x12 x13 x14 x15 x16 x17 x18 x19 x20 x21 x22 x23 x24 x25 x26 x27 x28 x29 x30 x31 x32 x33 x34 x35 x36 x37 x38 x39 x40 x41 x42 x43 x44 x45 x46 : Value, o.cells = [.int .i64 o.kind, x1, x2, x3, x4, x5, x6, x7, x8, x9, x10, x11, x12, x13, x14, x15, x16, x17, x18, x19, x20, x21, x22, x23, x24, x25, x26, x27, x28, x29, x30, x31, x32, x33, x34, x35, x36, x37, x38, x39, x40, x41, x42, x43, x44, x45, x46] := by
  obtain ⟨kind, name, version, ⟨w0, w1, w2, w3, w4, w5, w6⟩, ⟨p0, p1, p2, p3, p4, p5, p6, p7, p8, p9⟩, ⟨n0, n1, n2, n3, n4, n5, n6⟩, ⟨g0, g1, g2, g3, g4, g5, g6, g7⟩, ⟨h0, h1, h2, h3, h4, ⟨h5, h6, h7⟩, ⟨h8, h9, h10⟩, h11⟩⟩ := o
  exact ⟨.string name, .int .u64 version, .int .i64 w0, .int .i64 w1, .int .i64 w2, w3.v, w4.v, w5.v, .int .i64 w6, .string p0, .string p1, .int .i64 p2, .int .i64 p3, .int .i64 p4, .int .i64 p5, p6.v, p7.v, p8.v, .int .i64 p9, .string n0, .int .i64 n1, .int .i64 n2, n3.v, n4.v, .int .i64 n5, .bool n6, .int .i64 g0, .int .i64 g1, .int .i64 g2, .int .i64 g3, .int .i64 g4, g5.v, g6.v, .int .i64 g7, .string h0, .int .i64 h1, .int .i64 h2, h3.v, .int .i64 h4, .int .i64 h5, .int .i64 h6, h7.v, .int .i64 h8, .int .i64 h9, h10.v, h11.v, rfl⟩
set_option maxHeartbeats 8000000 in
set_option maxRecDepth 100000 in
theorem same_eq (a b : Ob) (w : World) (k : Int) (hk : 0 ≤ k ∧ k ≤ 4) (ha : a.kind = k) (hb : b.kind = k) (hao : a.Ok w) (hbo : b.Ok w) (has : ObS a) (hbs : ObS b) (he : objB a = objB b) :
    Calls Tryz.prog 39 #[.agg a.cells.toArray, .agg b.cells.toArray] w fun e w' => e = .returned (.bool true) ∧ Below w.heap.size w w' := by
  have CA : Hid (∀ w1, Below w.heap.size w w1 → Calls Tryz.prog 59 #[.agg a.cells.toArray] w1 fun e w' => e = .returned (.string (objB a)) ∧ Below w1.heap.size w1 w') := Lib.hid (fun w1 hb1 => object_any a w1 (by omega) (hao.below hb1) has)
  have CB : Hid (∀ w1, Below w.heap.size w w1 → Calls Tryz.prog 59 #[.agg b.cells.toArray] w1 fun e w' => e = .returned (.string (objB b)) ∧ Below w1.heap.size w1 w') := Lib.hid (fun w1 hb1 => object_any b w1 (by omega) (hbo.below hb1) hbs)
  rw [← he] at CB
  obtain ⟨x1, x2, x3, x4, x5, x6, x7, x8, x9, x10, x11, x12, x13, x14, x15, x16, x17, x18, x19, x20, x21, x22, x23, x24, x25, x26, x27, x28, x29, x30, x31, x32, x33, x34, x35, x36, x37, x38, x39, x40, x41, x42, x43, x44, x45, x46, hx⟩ := ob_cells a
  obtain ⟨y1, y2, y3, y4, y5, y6, y7, y8, y9, y10, y11, y12, y13, y14, y15, y16, y17, y18, y19, y20, y21, y22, y23, y24, y25, y26, y27, y28, y29, y30, y31, y32, y33, y34, y35, y36, y37, y38, y39, y40, y41, y42, y43, y44, y45, y46, hy⟩ := ob_cells b
  rw [ha] at hx
  rw [hb] at hy
  rw [hx] at CA
  rw [hy] at CB
  rw [hx, hy]
  generalize objB a = s at CA CB
  clear hx hy hao hbo has hbs he ha hb
  obtain ⟨k0, k4⟩ := hk
  have kk : (k != k) = false := by simp
  have k5 : ¬ 5 ≤ k := by omega
  go_enter Tryz.func39, Tryz.ntmps39
  go_wp2_with fail
  obtain ⟨W0, hW0⟩ : ∃ W0, W0 = (w.alloc (.cells #[.int .i64 k, x1, x2, x3, x4, x5, x6, x7, x8, x9, x10, x11, x12, x13, x14, x15, x16, x17, x18, x19, x20, x21, x22, x23, x24, x25, x26, x27, x28, x29, x30, x31, x32, x33, x34, x35, x36, x37, x38, x39, x40, x41, x42, x43, x44, x45, x46] 56)).alloc (.cells #[.int .i64 k, y1, y2, y3, y4, y5, y6, y7, y8, y9, y10, y11, y12, y13, y14, y15, y16, y17, y18, y19, y20, y21, y22, y23, y24, y25, y26, y27, y28, y29, y30, y31, y32, y33, y34, y35, y36, y37, y38, y39, y40, y41, y42, y43, y44, y45, y46] 56) := ⟨_, rfl⟩
  have hka := (Bk.new w 56 #[.int .i64 k, x1, x2, x3, x4, x5, x6, x7, x8, x9, x10, x11, x12, x13, x14, x15, x16, x17, x18, x19, x20, x21, x22, x23, x24, x25, x26, x27, x28, x29, x30, x31, x32, x33, x34, x35, x36, x37, x38, x39, x40, x41, x42, x43, x44, x45, x46]).alloc (.cells #[.int .i64 k, y1, y2, y3, y4, y5, y6, y7, y8, y9, y10, y11, y12, y13, y14, y15, y16, y17, y18, y19, y20, y21, y22, y23, y24, y25, y26, y27, y28, y29, y30, y31, y32, y33, y34, y35, y36, y37, y38, y39, y40, y41, y42, y43, y44, y45, y46] 56)
  have hkb := Bk.new (w.alloc (.cells #[.int .i64 k, x1, x2, x3, x4, x5, x6, x7, x8, x9, x10, x11, x12, x13, x14, x15, x16, x17, x18, x19, x20, x21, x22, x23, x24, x25, x26, x27, x28, x29, x30, x31, x32, x33, x34, x35, x36, x37, x38, x39, x40, x41, x42, x43, x44, x45, x46] 56)) 56 #[.int .i64 k, y1, y2, y3, y4, y5, y6, y7, y8, y9, y10, y11, y12, y13, y14, y15, y16, y17, y18, y19, y20, y21, y22, y23, y24, y25, y26, y27, y28, y29, y30, y31, y32, y33, y34, y35, y36, y37, y38, y39, y40, y41, y42, y43, y44, y45, y46]
  rw [World.size_alloc] at hkb
  have hB0 : Below w.heap.size w W0 := by rw [hW0]; exact (below_al _ _).alloc (by simp) _
  rw [← hW0] at hka hkb ⊢
  clear hW0
  have hS : ∃ fs, Tryz.prog.underlying 56 = some (.struct fs) := ⟨_, Tryz.underlying56⟩
  obtain ⟨fs, hfs⟩ := hS
  have HF := Lib.hid hfs
  clear hfs
  refine wp_region_quiet_below (by kernel_rfl) (by kernel_rfl) ?_
  refine q_load hka rfl 56 (.tmp 2) rfl rfl _ HF.out rfl (by kernel_rfl) ?_
  quiet_step ((go_at_call 59; (with_reducible exact Calls.regrown_of (CA.out _ (below_tr hB0 (below_regrown _ _ _))))))
  refine q_load hkb rfl 56 (.tmp 3) rfl rfl _ HF.out rfl (by kernel_rfl) ?_
  quiet_step ((go_at_call 59; (with_reducible exact Calls.regrown_of (CB.out _ (below_tr hB0 (below_regrown _ _ _))))))
  repeat (quiet_step (fail))
  refine q_done fun W1 hBz => ?_
  go_wp2_with fail
  go_ret
  exact ⟨rfl, hB0.trans (hBz.mono hB0.size)⟩
end Go.Proofs.YtcbnmoghjhljbaaGreat
end
section
namespace Go.Proofs.Mem
open Go Go.RowKit Go.Sort
set_option linter.unusedVariables false
section
variable {P : Program} {ops : Array Oper} {C : World → Prop} {md : Region.Mode} {l n : Nat}
end
end Go.Proofs.Mem
end
section
namespace Go.Proofs.Mem
open Go Go.RowKit Go.Sort
set_option linter.unusedVariables false
structure Stilled (ops ops2 : Array Oper) (z : Nat) (o o2 : Oper) : Prop where
  size : ops2.size = ops.size
  at_z : ops[z]? = some o
  at_z2 : ops2[z]? = some o2
  same : ∀ i, i ≠ z → ops2[i]? = ops[i]?
  after : o2.after = o.after
  guard : o.guard = none
  guard2 : o2.guard = none
  dst2 : o2.dst = none
  free : ∀ (i : Nat) (oi : Oper), ops[i]? = some oi → ∀ b, oi.guard ≠ some (z, b)
  cover : ∀ j, j < ops.size → j ≠ z → ∃ e ∈ o.after, Region.binds .any e = true ∧ e.on = j
  up : ∀ (i : Nat) (oi : Oper), ops[i]? = some oi → ∀ e ∈ oi.after, Region.binds .any e = true → e.on < i
section
variable {P : Program} {ops ops2 : Array Oper} {C : World → Prop} {z : Nat} {o o2 : Oper}
theorem Stilled.ready (S : Stilled ops ops2 z o o2) (l : Array Bool) : Region.ready .any ops2 l = Region.ready .any ops l := by
  unfold Region.ready
  rw [S.size]
  apply List.filter_congr
  intro i _
  by_cases h : i = z
  · subst h
    rw [S.at_z, S.at_z2]
    simp only [Option.map_some, S.after]
  · rw [S.same i h]
theorem Stilled.wanted (S : Stilled ops ops2 z o o2) (i : Nat) (oi : Oper) (hi : ops[i]? = some oi) (a : Act) : Region.wanted oi (yielded ops2 a.tmps) = Region.wanted oi (yielded ops a.tmps) := by
  unfold Region.wanted
  cases hg : oi.guard with
  | none => rfl
  | some gb =>
    obtain ⟨g, b⟩ := gb
    have hz : g ≠ z := fun e => S.free i oi hi b (by rw [hg, e])
    simp only [yielded, S.same g hz]
theorem Stilled.all (S : Stilled ops ops2 z o o2) (l : Array Bool) (hl : l.size = ops.size) (hr : Region.ready .any ops l = []) : ∀ i, i < ops.size → l.getD i false = true := by
  intro i
  induction i using Nat.strongRecOn with
  | ind i ih =>
    intro hi
    cases e : l.getD i false
    · exfalso
      have : i ∈ Region.ready .any ops l := by
        unfold Region.ready
        rw [List.mem_filter]
        refine ⟨List.mem_range.2 hi, ?_⟩
        have e' : l.getD i true = false := by
          have hi' : i < l.size := by omega
          simpa [Array.getD, hi'] using e
        rw [e', Array.getElem?_eq_getElem hi]
        simp only [Bool.not_false, Bool.true_and, Option.map_some, Option.getD_some]
        rw [Array.all_eq_true']
        intro x hx
        cases hb : Region.binds .any x
        · rfl
        · have hlt := S.up i ops[i] (Array.getElem?_eq_getElem hi) x hx hb
          rw [ih x.on hlt (by omega)]
          rfl
      rw [hr] at this
      cases this
    · rfl
theorem Stilled.others (S : Stilled ops ops2 z o o2) (l : Array Bool) (h : z ∈ Region.ready .any ops l) : ∀ j, j < ops.size → j ≠ z → l.getD j false = true := by
  intro j hj hz
  unfold Region.ready at h
  rw [List.mem_filter, Bool.and_eq_true, S.at_z] at h
  have h2 := h.2.2
  simp only [Option.map_some, Option.getD_some] at h2
  rw [Array.all_eq_true'] at h2
  obtain ⟨e, he, hb, rfl⟩ := S.cover j hj hz
  have := h2 e he
  rw [hb] at this
  simpa using this
theorem ready_nil (l : Array Bool) (hl : l.size = ops.size) (h : ∀ i, i < ops.size → l.getD i false = true) : Region.ready .any ops l = [] := by
  unfold Region.ready
  rw [List.filter_eq_nil_iff]
  intro i hi
  have hi' := List.mem_range.1 hi
  have h1 := h i hi'
  have e' : l.getD i true = true := by
    have : i < l.size := by omega
    simpa [Array.getD, this] using h1
  rw [e']
  simp
theorem wpAny_last (S : Stilled ops ops2 z o o2) {Q : Act → Prop} {Q' : Exit → Act → World → Prop} {R : Act → World → Prop} (hR : ∀ a w, R a w → Q' .normal a w)
    (hlast : ∀ a w, C w → Q a → ∀ K : Act → World → Prop, (∀ a' w', R a' w' → K a' w') → wpOp P ops Q' z K a w) :
    ∀ (fuel : Nat) (l : Array Bool) (a : Act) (w : World), l.size = ops.size → l.getD z false = false → C w → wpAnyQ P .any ops2 C Q fuel l a → wpAny P .any ops Q' fuel l a w := by
  have hz : z < ops.size := (Array.getElem?_eq_some_iff.1 S.at_z).1
  have hno : ∀ l : Array Bool, l.size = ops.size → l.getD z false = false → Region.ready .any ops l ≠ [] := fun l hl hf hr => by
    rw [S.all l hl hr z hz] at hf
    cases hf
  intro fuel
  induction fuel with
  | zero =>
    intro l a w hl hf hC h
    exact absurd (by rw [← S.ready l]; exact h.1) (hno l hl hf)
  | succ fuel ih =>
    intro l a w hl hf hC h
    refine ⟨fun hr => absurd hr (hno l hl hf), fun i hi => ?_⟩
    have hq := h.2 i (by rw [S.ready l]; exact hi)
    by_cases hiz : i = z
    · subst hiz
      have hall : Region.ready .any ops (l.setIfInBounds i true) = [] := by
        refine ready_nil _ (by simpa using hl) fun j hj => ?_
        by_cases hji : j = i
        · subst hji
          have : j < l.size := by omega
          simp [Array.getD, this]
        · have h1 := S.others l hi j hj hji
          have : j < l.size := by omega
          simp only [Array.getD_eq_getD_getElem?] at h1 ⊢
          rw [Array.getElem?_setIfInBounds_ne (Ne.symm hji)]
          exact h1
      have hQa : Q a := by
        unfold qOp at hq
        rw [S.at_z2] at hq
        simp only [Region.wanted, S.guard2, if_true] at hq
        obtain ⟨v, _, hk⟩ := hq
        have ea : a.put o2.dst v = a := by rw [S.dst2]; rfl
        rw [ea] at hk
        cases fuel with
        | zero => exact hk.2
        | succ m => exact hk.1 (by rw [S.ready]; exact hall)
      refine hlast a w hC hQa _ fun a' w' hr' => ?_
      cases fuel with
      | zero => exact ⟨hall, hR _ _ hr'⟩
      | succ m => exact ⟨fun _ => hR _ _ hr', fun j hj => by rw [hall] at hj; cases hj⟩
    · have hqo : qOp P ops C i (wpAnyQ P .any ops2 C Q fuel (l.setIfInBounds i true)) a := by
        unfold qOp at hq ⊢
        rw [S.same i hiz] at hq
        cases ho : ops[i]? with
        | none => rw [ho] at hq; exact hq
        | some oi =>
          rw [ho] at hq
          simp only [S.wanted i oi ho a] at hq
          exact hq
      refine wpOp_of_qOp hC (fun a' w' hC' hk => ih _ a' w' (by simpa using hl) ?_ hC' hk) hqo
      simp only [Array.getD_eq_getD_getElem?] at hf ⊢
      rw [Array.getElem?_setIfInBounds_ne hiz]
      exact hf
end
def still (o : Oper) : Oper := { o with op := .move (.const undef), dst := none, guard := none }
def stillLast : List Oper → List Oper
  | [] => []
  | [o] => [still o]
  | x :: y :: r => x :: stillLast (y :: r)
theorem stillLast_eq : ∀ (L : List Oper) (o : Oper), stillLast (L ++ [o]) = L ++ [still o]
  | [], _ => rfl
  | [x], o => rfl
  | x :: y :: r, o => by
    have := stillLast_eq (y :: r) o
    show x :: stillLast (y :: r ++ [o]) = _
    rw [this]
    rfl
def lastOk (l : List Oper) : Bool :=
  match l.getLast? with
  | none => false
  | some o =>
    let z := l.length - 1
    o.guard.isNone && (l.all fun x => match x.guard with | some (g, _) => g != z | none => true) &&
    ((List.range z).all fun j => o.after.toList.any fun e => Region.binds .any e && e.on == j) &&
    ((List.range l.length).all fun i => ((l[i]?).map fun x => x.after.toList.all fun e => !Region.binds .any e || decide (e.on < i)).getD true)
theorem stilled_of {L : List Oper} {o : Oper} (h : lastOk (L ++ [o]) = true) : Stilled (L ++ [o]).toArray (L ++ [still o]).toArray L.length o (still o) := by
  unfold lastOk at h
  rw [List.getLast?_append] at h
  simp only [List.getLast?_singleton, Option.some_or, List.length_append, List.length_cons, List.length_nil, Nat.zero_add, Nat.add_sub_cancel, Bool.and_eq_true] at h
  obtain ⟨⟨⟨h1, h2⟩, h3⟩, h4⟩ := h
  refine ⟨by simp, by simp, by simp, fun i hi => ?_, rfl, by simpa using h1, rfl, rfl, fun i oi hoi b hb => ?_, fun j hj hjz => ?_, fun i oi hoi e he hb => ?_⟩
  · simp only [List.getElem?_toArray]
    rcases Nat.lt_or_ge i L.length with hlt | hge
    · rw [List.getElem?_append_left hlt, List.getElem?_append_left hlt]
    · rw [List.getElem?_eq_none (by simp; omega), List.getElem?_eq_none (by simp; omega)]
  · have hm : oi ∈ L ++ [o] := by
      rw [List.getElem?_toArray] at hoi
      exact List.mem_of_getElem? hoi
    have := List.all_eq_true.1 h2 oi hm
    rw [hb] at this
    simp at this
  · have hj' : j < L.length := by simp at hj; omega
    have := List.all_eq_true.1 h3 j (List.mem_range.2 hj')
    obtain ⟨e, he, hx⟩ := List.any_eq_true.1 this
    rw [Bool.and_eq_true] at hx
    exact ⟨e, Array.mem_toList_iff.1 he, hx.1, by simpa using hx.2⟩
  · rw [List.getElem?_toArray] at hoi
    have hi := (List.getElem?_eq_some_iff.1 hoi).1
    have := List.all_eq_true.1 h4 i (List.mem_range.2 (by simpa using hi))
    rw [hoi] at this
    simp only [Option.map_some, Option.getD_some] at this
    have h5 := List.all_eq_true.1 this e (Array.mem_toList_iff.2 he)
    rw [hb] at h5
    simpa using h5
theorem wp_region_quiet_last {P : Program} {id : Nat} {Q : Exit → Act → World → Prop} {a : Act} {w : World} {l L : List Oper} {o : Oper} (hl : l = L ++ [o]) (hm : P.follows .mixedOrders = true) (hB : Region.lexB .any (stillLast l).toArray = true) (hk : lastOk l = true)
    (h : wpQuiet P (stillLast l).toArray (fun w' => ∃ p : Regrown, w' = grow (redrawn w p.d) p.os) (fun a' => ∀ w', (∃ p : Regrown, w' = grow (redrawn w p.d) p.os) → o.wp P a' w' (fun a w => Q .normal a w) Q) (stillLast l) a) : (Code.region id l.toArray true).wp P Q a w := by
  subst hl
  rw [stillLast_eq] at hB h
  have S := stilled_of hk
  simp only [Region.lexB, Bool.and_eq_true] at hB
  have hq := wpAnyQ_lex (P := P) (ops := (L ++ [still o]).toArray) (C := fun w' => ∃ p : Regrown, w' = grow (redrawn w p.d) p.os) (md := .any) hB.1 (L ++ [still o]) 0 (Array.replicate (L ++ [still o]).toArray.size false) a (by simp) (by simpa using hB.2) h
  refine wp_region_any hm (wpAny_last S (R := fun a w => Q .normal a w) (fun _ _ h => h) (fun a' w' hC hQ K hK => ?_) _ _ _ _ (by simp) (by simp) (regrown_of_below ((Below.refl _ w).drew)) (by simpa using hq))
  unfold wpOp
  rw [S.at_z]
  simp only [Region.wanted, S.guard, if_true]
  obtain ⟨rp, rfl⟩ := hC
  exact .inl (Oper.wp_mono hK (hQ rp))
end Go.Proofs.Mem
end
section
namespace Go.Proofs.YtcbnmoghjhljbaaGreat
open Go.RowKit Go.Proofs.Mem
set_option linter.unusedVariables false
set_option linter.unusedSimpArgs false
set_option maxRecDepth 100000 in
theorem mclone (w : World) (b n : Nat) (D : DataW Value) (h : Mp Tryz.prog w 92 b n D) :
    Calls Tryz.prog 27 #[.map (some b)] w fun e w' => e = .returned (.map (some w.heap.size)) ∧ Mp Tryz.prog w' 92 w.heap.size n D ∧ Below w.heap.size w w' ∧ w'.heap.size = w.heap.size + 1 := by
  obtain ⟨es, clock, hb, F, hs, hD⟩ := id h
  have hlt := h.lt
  have HE := Lib.hid (And.intro F (And.intro hs hD))
  have HH := Lib.hid h
  have hU : Tryz.prog.underlying 86 = some (.map 92 56) := Tryz.underlying86
  have hI : Tryz.prog.underlying 20 = some (.interface #[]) := Tryz.underlying20
  have hq := fun w => run_eql_map_nil_sl (P := Tryz.prog) w 86 _ _ (some b) hU
  clear h F hs hD
  go_enter Tryz.func27, Tryz.ntmps27
  go_wp2
  rw [run_callFunc_extern Tryz.func44 (by kernel_rfl) (by kernel_rfl) (by kernel_rfl) (e := Extern.MapsClone.clone) (by kernel_rfl), run_maps_clone_sl w 86 hb]
  simp only [Result.andThen]
  rw [Oper.upon_value]
  go_wp2
  rw [run_typeAssert_map_sl _ 86 20 _ _ _ hU]
  simp only [Result.andThen]
  rw [Oper.upon_value]
  go_wp2
  go_ret
  exact ⟨rfl, ⟨es, clock, (MapKept.heap_alloc w _).1, HE.out⟩, below_al w _, World.size_alloc _ _⟩
def CopySt (w : World) (n : Nat) (D : DataW Value) (most : Int) (now : Nat) (evs : List Ev) (e : Ending) (w' : World) : Prop :=
  ∃ p2 b2 ev2, e = .returned (.pointer (some ⟨p2, 0, none⟩)) ∧ StIs w' p2 b2 n D most now ev2 evs ∧ w.heap.size ≤ b2 ∧ Below w.heap.size w w'
set_option maxHeartbeats 2000000 in
set_option maxRecDepth 100000 in
theorem scopy_any (w : World) (p b n : Nat) (D : DataW Value) (most : Int) (now : Nat) (ev : Value) (evs : List Ev) (h : StIs w p b n D most now ev evs) (hevs : evs.length ≤ 1024) :
    Calls Tryz.prog 9 #[.pointer (some ⟨p, 0, none⟩)] w (CopySt w n D most now evs) := by
  obtain ⟨d0, d1, d2, d3⟩ := h.cells
  have hsl := Sl.of_own h.2.2.2
  obtain ⟨A, c, rfl, hc, hA, hlen, hx⟩ := id hsl
  have HS := Lib.hid h
  have HL := Lib.hid (And.intro hsl hevs)
  clear h hsl hx hlen hc hA hevs
  go_enter Tryz.func9, Tryz.ntmps9
  go_wp2_with fail
  refine wp_region_sched [0, 1, 2, 3, 4, 5, 6, 7, 9, 10, 11, 12, 13, 14, 15, 16] [(false, 8), (false, 17), (false, 18), (false, 19), (false, 20)] [] (fun i => !(i == 3 || i == 7 || i == 12 || i == 16)) (fun w' => w'.cell? ⟨p, 0, none⟩ = some (.int .i64 most) ∧ w'.cell? ⟨p, 1, none⟩ = some (.map (some b)) ∧ w'.cell? ⟨p, 2, none⟩ = some (.int .u64 now) ∧ w'.cell? ⟨p, 3, none⟩ = some (.slice A evs.length c)) (by kernel_rfl) (by kernel_rfl) (fun c a d v w h => by cases d <;> exact h) ⟨d0, d1, d2, d3⟩ fun u0 Hu => ?_
  have hS0 : StIs u0 p b n D most now (.slice A evs.length c) evs := by rw [Hu.out]; exact HS.out.below (Below.refl _ w).drew
  have BU : Below w.heap.size w u0 := by rw [Hu.out]; exact (Below.refl _ w).drew
  have hz0 : u0.heap.size = w.heap.size := by rw [Hu.out]; rfl
  have HU := Lib.hid (And.intro hS0 (And.intro BU hz0))
  clear hS0 BU hz0 Hu d0 d1 d2 d3
  iterate 16
    first
      | refine readsL_free (v := ?_) (by rfl) (by rfl) (fun w' => ?_) ?_
        rotate_left
        · go_simp
          with_reducible rfl
      | refine readsL_step (v := ?_) (by rfl) (by rfl) (by rfl) (fun w' hS => ?_) ?_
        rotate_left
        · have u0 := hS.1
          have u1 := hS.2.1
          have u2 := hS.2.2.1
          have u3 := hS.2.2.2
          clear hS
          go_simp
          with_reducible rfl
    simp only [Act.put, List.setIfInBounds_toArray, List.set_cons_zero, List.set_cons_succ, List.getElem_toArray, List.getElem_cons_succ, List.getElem_cons_zero]
  refine readsL_nil ?_
  refine earlyL_call (R := fun v w' => v = .map (some u0.heap.size) ∧ Mp Tryz.prog w' 92 u0.heap.size n D ∧ Below u0.heap.size u0 w' ∧ w'.heap.size = u0.heap.size + 1) 27 #[.map (some b)] (by rfl) (by rfl) (by go_simp) ((mclone u0 b n D HU.out.1.2.2.1).mono ?_) ?_
  · rintro e w' ⟨rfl, h1, h2, h3⟩
    exact ⟨_, rfl, rfl, h1, h2, h3⟩
  rintro _ w1 ⟨rfl, hm1, b1, hz1⟩
  have S1 := HU.out.1.below b1
  refine ⟨S1.cells, ?_⟩
  have hsl1 := (HL.out.1.below HU.out.2.1).below b1
  have H1 := Lib.hid (And.intro S1 (And.intro hm1 (And.intro b1 hz1)))
  clear S1 hm1 b1 hz1
  simp only [Act.put, List.setIfInBounds_toArray, List.set_cons_zero, List.set_cons_succ, List.getElem_toArray, List.getElem_cons_succ, List.getElem_cons_zero]
  have hk : evs.length * 40 ≤ 140737488355328 := by have := HL.out.2; omega
  have CE := clone_ev evs.length _ _ w1 hsl1 (evs_one evs) hk
  clear hk hsl1
  refine earlyL_slice (n := evs.length) (R := fun v' w' => w'.ownsRow w1.heap.size 95 4 v' evs.length (evs.flatMap Ev.cells) ∧ Below w1.heap.size w1 w') 28 #[.slice A evs.length c] (by rfl) (by rfl) (by go_simp) (CE.mono ?_) ?_
  · rintro e w' ⟨v', rfl, h1, h2, _⟩
    obtain ⟨A9, c9, e9, _⟩ := id (Sl.of_own h1)
    subst e9
    exact ⟨A9, c9, rfl, h1, h2⟩
  rintro A2 c2 w2 ⟨hown2, b2⟩
  have S2 := H1.out.1.below b2
  refine ⟨S2.cells, ?_⟩
  have hm2 := H1.out.2.1.below b2
  have B2 := below_tr (below_tr HU.out.2.1 H1.out.2.2.1) b2
  have H2 := Lib.hid (And.intro S2 (And.intro hm2 (And.intro B2 (And.intro hown2 b2))))
  clear S2 hm2 B2 hown2 b2 CE
  simp only [Act.put, List.setIfInBounds_toArray, List.set_cons_zero, List.set_cons_succ, List.getElem_toArray, List.getElem_cons_succ, List.getElem_cons_zero]
  refine earlyL_run (v := .agg #[.int .i64 most, .map (some u0.heap.size), .int .u64 now, .slice A2 evs.length c2]) (w1 := w2) (by rfl) (by rfl) (by go_simp) H2.out.1.cells ?_
  simp only [Act.put, List.setIfInBounds_toArray, List.set_cons_zero, List.set_cons_succ, List.getElem_toArray, List.getElem_cons_succ, List.getElem_cons_zero]
  have k3 := Bk.new w2 89 #[.int .i64 most, .map (some u0.heap.size), .int .u64 now, .slice A2 evs.length c2]
  iterate 2
    refine earlyL_run (v := .pointer (some ⟨w2.heap.size, 0, none⟩)) (w1 := w2.alloc (.cells #[.int .i64 most, .map (some u0.heap.size), .int .u64 now, .slice A2 evs.length c2] 89)) (by rfl) (by rfl) (by go_simp) (H2.out.1.below (below_al w2 _)).cells ?_
    simp only [Act.put, List.setIfInBounds_toArray, List.set_cons_zero, List.set_cons_succ, List.getElem_toArray, List.getElem_cons_succ, List.getElem_cons_zero]
  refine earlyL_nil ?_
  simp only [List.filterMap_nil]
  have HK := Lib.hid k3
  clear k3
  go_wp2_with fail
  go_ret
  obtain ⟨S2, hm2, B2, hown2, b2⟩ := H2.out
  obtain ⟨S1, hm1, b1, hz1⟩ := H1.out
  have hb := hm2.lt
  refine ⟨_, _, _, rfl, ⟨⟨hb, fun e => ?_⟩, HK.out, hm2.below (below_al w2 _), own_below (own_mono hown2 (by omega)) (below_al w2 _)⟩, ?_, below_tr B2 (below_al w2 _)⟩
  · have := (hown2.lt _ e).2
    omega
  · have := HU.out.2.2
    omega
end Go.Proofs.YtcbnmoghjhljbaaGreat
end
section
namespace Go.Proofs.Mem
open Go Go.RowKit
set_option linter.unusedVariables false
variable {F : Fence} {n : Nat} {P : Program}
end Go.Proofs.Mem
end
section
namespace Go.Proofs.Dv
set_option linter.unusedVariables false
set_option linter.unusedSimpArgs false

theorem or_shift (X t s : Nat) (ht : t < 2 ^ s) : (X * 2 ^ s) ||| t = X * 2 ^ s + t := by
  have := Nat.two_pow_add_eq_or_of_lt ht X
  rw [Nat.mul_comm] at this
  exact this.symm

theorem norm (hi lo y s Y : Nat) (hY : Y = y * 2 ^ s) (hs : s ≤ 63) (hlo : lo < 18446744073709551616) (h : hi < y) :
    (hi * 2 ^ s + lo / 2 ^ (64 - s)) * 18446744073709551616 + lo * 2 ^ s % 18446744073709551616 = (hi * 18446744073709551616 + lo) * 2 ^ s ∧ hi * 2 ^ s + lo / 2 ^ (64 - s) < Y ∧ lo / 2 ^ (64 - s) < 2 ^ s := by
  have e : (2 : Nat) ^ (64 - s) * 2 ^ s = 18446744073709551616 := by rw [← Nat.pow_add]; have : 64 - s + s = 64 := by omega
                                                                     rw [this]
  have hp : 0 < 2 ^ (64 - s) := Nat.two_pow_pos _
  have hp2 : 0 < 2 ^ s := Nat.two_pow_pos _
  have d : lo / 2 ^ (64 - s) < 2 ^ s := by rw [Nat.div_lt_iff_lt_mul hp, Nat.mul_comm, e]; exact hlo
  have e2 : lo * 2 ^ s = lo / 2 ^ (64 - s) * 18446744073709551616 + lo * 2 ^ s % 18446744073709551616 := by
    have e3 : lo * 2 ^ s / 18446744073709551616 = lo / 2 ^ (64 - s) := by rw [← e, Nat.mul_div_mul_right _ _ hp2]
    rw [← e3]
    exact (Nat.div_add_mod' _ _).symm
  refine ⟨?_, ?_, d⟩
  · rw [Nat.add_mul (hi * 18446744073709551616), e2, Nat.add_mul]
    have e4 : hi * 18446744073709551616 * 2 ^ s = hi * 2 ^ s * 18446744073709551616 := by rw [Nat.mul_right_comm]
    rw [e4]
    omega
  · rw [hY]
    have : hi * 2 ^ s + 2 ^ s ≤ y * 2 ^ s := by rw [← Nat.succ_mul]; exact Nat.mul_le_mul_right _ h
    omega

def Rel (U u1 n1 n0 q r : Nat) : Prop := U = q * n1 + r ∧ U * 4294967296 + u1 < (q + 1) * (n1 * 4294967296 + n0) ∧ r < 4294967296 ∧ q ≤ 4294967297
def Fnd (U u1 n1 n0 q : Nat) : Prop := q * (n1 * 4294967296 + n0) ≤ U * 4294967296 + u1 ∧ U * 4294967296 + u1 < (q + 1) * (n1 * 4294967296 + n0) ∧ q < 4294967296

section
variable {U u1 n1 n0 q r : Nat}
theorem big (U u1 q n1 n0 r : Nat) (h : U = q * n1 + r) : U * 4294967296 + u1 = q * (n1 * 4294967296) + (r * 4294967296 + u1) := by
  rw [h, Nat.add_mul, Nat.mul_assoc]; omega
theorem rel_start (h1 : 2147483648 ≤ n1) (h1' : n1 < 4294967296) (h0 : n0 < 4294967296) (hu : u1 < 4294967296) (hU : U < n1 * 4294967296 + n0) : Rel U u1 n1 n0 (U / n1) (U % n1) := by
  have hm := Nat.mod_lt U (by omega : n1 > 0)
  have e := Nat.div_add_mod' U n1
  refine ⟨e.symm, ?_, by omega, ?_⟩
  · rw [Nat.add_mul, Nat.one_mul, Nat.mul_add]
    generalize hq : U / n1 = q at *
    generalize hr : U % n1 = r at *
    have := big U u1 q n1 n0 r e.symm
    have : r * 4294967296 + 4294967296 ≤ n1 * 4294967296 := by omega
    omega
  · have h2 : U < 4294967298 * n1 := by omega
    have := (Nat.div_lt_iff_lt_mul (by omega : 0 < n1)).2 h2
    omega
theorem rel_more (h : Rel U u1 n1 n0 q r) (hU : U < n1 * 4294967296 + n0) (hu : u1 < 4294967296) (ht : 4294967296 ≤ q ∨ r * 4294967296 + u1 < q * n0) : 0 < q ∧ U * 4294967296 + u1 < q * (n1 * 4294967296 + n0) := by
  obtain ⟨e, h2, h3, h4⟩ := h
  rcases ht with ht | ht
  · refine ⟨by omega, ?_⟩
    have : 4294967296 * (n1 * 4294967296 + n0) ≤ q * (n1 * 4294967296 + n0) := Nat.mul_le_mul_right _ ht
    omega
  · refine ⟨?_, ?_⟩
    · rcases Nat.eq_zero_or_pos q with h0 | h0
      · subst h0; omega
      · exact h0
    · rw [big U u1 q n1 n0 r e, Nat.mul_add]; omega
theorem rel_step (h : Rel U u1 n1 n0 q r) (hU : U < n1 * 4294967296 + n0) (hu : u1 < 4294967296) (ht : 4294967296 ≤ q ∨ r * 4294967296 + u1 < q * n0) (hr : r + n1 < 4294967296) : Rel U u1 n1 n0 (q - 1) (r + n1) := by
  obtain ⟨hq, hlt⟩ := rel_more h hU hu ht
  obtain ⟨e, h2, h3, h4⟩ := h
  obtain ⟨p, rfl⟩ : ∃ p, q = p + 1 := ⟨q - 1, by omega⟩
  refine ⟨?_, hlt, hr, by omega⟩
  rw [e, Nat.add_mul]; simp; omega
theorem rel_break (h : Rel U u1 n1 n0 q r) (hU : U < n1 * 4294967296 + n0) (hu : u1 < 4294967296) (h0 : n0 < 4294967296) (ht : 4294967296 ≤ q ∨ r * 4294967296 + u1 < q * n0) (hr : 4294967296 ≤ r + n1) : Fnd U u1 n1 n0 (q - 1) := by
  obtain ⟨hq, hlt⟩ := rel_more h hU hu ht
  obtain ⟨e, h2, h3, h4⟩ := h
  obtain ⟨p, rfl⟩ : ∃ p, q = p + 1 := ⟨q - 1, by omega⟩
  have hp : p ≤ 4294967296 := by omega
  have e2 : U = p * n1 + (r + n1) := by rw [e, Nat.add_mul]; omega
  have k1 : p * n0 ≤ 4294967296 * 4294967295 := Nat.mul_le_mul hp (by omega)
  have k2 : p * (n1 * 4294967296 + n0) ≤ U * 4294967296 + u1 := by rw [big U u1 p n1 n0 _ e2, Nat.mul_add]; omega
  refine ⟨by simpa using k2, by simpa using hlt, ?_⟩
  rcases Nat.lt_or_ge p 4294967296 with h5 | h5
  · simpa using h5
  · have : 4294967296 * (n1 * 4294967296 + n0) ≤ p * (n1 * 4294967296 + n0) := Nat.mul_le_mul_right _ h5
    omega
theorem rel_end (h : Rel U u1 n1 n0 q r) (hq : q < 4294967296) (ht : q * n0 ≤ r * 4294967296 + u1) : Fnd U u1 n1 n0 q := by
  obtain ⟨e, h2, h3, h4⟩ := h
  exact ⟨by rw [big U u1 q n1 n0 r e, Nat.mul_add]; omega, h2, hq⟩
theorem rest_lt (h : Fnd U u1 n1 n0 q) : U * 4294967296 + u1 - q * (n1 * 4294967296 + n0) < n1 * 4294967296 + n0 := by
  obtain ⟨h1, h2, _⟩ := h
  rw [Nat.add_mul] at h2
  omega
end
theorem both (N Y y s U u1 u0 n1 n0 q1 q0 V : Nat) (hN : N * 2 ^ s = (U * 4294967296 + u1) * 4294967296 + u0) (hY : Y = y * 2 ^ s) (hy : Y = n1 * 4294967296 + n0) (f1 : Fnd U u1 n1 n0 q1) (hV : V = U * 4294967296 + u1 - q1 * Y) (f0 : Fnd V u0 n1 n0 q0) :
    N = (q1 * 4294967296 + q0) * y + (V * 4294967296 + u0 - q0 * Y) / 2 ^ s ∧ (V * 4294967296 + u0 - q0 * Y) / 2 ^ s < y := by
  obtain ⟨a1, a2, a3⟩ := f1
  have hlt := rest_lt f0
  obtain ⟨b1, b2, b3⟩ := f0
  rw [← hy] at a1 b1 hlt
  have hp : 0 < 2 ^ s := Nat.two_pow_pos _
  have e1 : N * 2 ^ s = (q1 * 4294967296 + q0) * Y + (V * 4294967296 + u0 - q0 * Y) := by
    rw [hN, Nat.add_mul (q1 * 4294967296) q0 Y]
    have k : q1 * 4294967296 * Y = q1 * Y * 4294967296 := by rw [Nat.mul_right_comm]
    omega
  generalize V * 4294967296 + u0 - q0 * Y = R at e1 hlt ⊢
  generalize q1 * 4294967296 + q0 = Q at e1 ⊢
  have e2 : N * 2 ^ s = Q * y * 2 ^ s + R := by rw [e1, hY, Nat.mul_assoc]
  have e3 : N = Q * y + R / 2 ^ s := by
    have k : N * 2 ^ s / 2 ^ s = (Q * y * 2 ^ s + R) / 2 ^ s := by rw [e2]
    rw [Nat.mul_div_cancel _ hp, Nat.add_comm (Q * y * 2 ^ s), Nat.add_mul_div_right _ _ hp] at k
    omega
  exact ⟨e3, by rw [Nat.div_lt_iff_lt_mul hp, ← hY]; exact hlt⟩
theorem wrap_rest (U u1 q Y V : Nat) (hV : V = U * 4294967296 + u1 - q * Y) (hle : q * Y ≤ U * 4294967296 + u1) (hb : V < 18446744073709551616) :
    IntKind.u64.wrap (IntKind.u64.wrap (IntKind.u64.wrap ((U : Int) * 4294967296) + (u1 : Int)) - IntKind.u64.wrap ((q : Int) * (Y : Int))) = (V : Int) := by
  rw [IntKind.wrap_u64, IntKind.wrap_u64, IntKind.wrap_u64, IntKind.wrap_u64]
  have e : ((q * Y : Nat) : Int) = (q : Int) * (Y : Int) := by push_cast; rfl
  rw [← e]
  generalize q * Y = p at *
  omega
theorem bitLen_spec (f x : Nat) (hx : x < 2 ^ f) (h0 : 0 < x) : 2 ^ (Lib.bitLenAux f x - 1) ≤ x ∧ x < 2 ^ Lib.bitLenAux f x ∧ 0 < Lib.bitLenAux f x ∧ Lib.bitLenAux f x ≤ f := by
  induction f generalizing x with
  | zero => simp at hx; omega
  | succ f ih =>
    rw [Lib.bitLenAux, if_neg (by omega)]
    rcases Nat.eq_zero_or_pos (x / 2) with h | h
    · have h1 : Lib.bitLenAux f (x / 2) = 0 := by rw [h]; cases f <;> simp [Lib.bitLenAux]
      rw [h1]
      simp
      omega
    · obtain ⟨i1, i2, i3, i4⟩ := ih (x / 2) (by rw [Nat.pow_succ] at hx; omega) h
      generalize Lib.bitLenAux f (x / 2) = n at *
      obtain ⟨m, rfl⟩ : ∃ m, n = m + 1 := ⟨n - 1, by omega⟩
      have e1 : 1 + (m + 1) - 1 = m + 1 := by omega
      have e2 : 1 + (m + 1) = m + 1 + 1 := by omega
      rw [e1, e2, Nat.pow_succ 2 (m + 1)]
      simp at i1
      have e3 : 2 ^ (m + 1) = 2 * 2 ^ m := by rw [Nat.pow_succ]; omega
      rw [e3] at i2 ⊢
      omega
theorem lz_spec (y : Nat) (h0 : 0 < y) (h1 : y < 18446744073709551616) : ∃ s : Nat, (64 - (Lib.bitLen y : Int)) = (s : Int) ∧ s ≤ 63 ∧ 9223372036854775808 ≤ y * 2 ^ s ∧ y * 2 ^ s < 18446744073709551616 := by
  obtain ⟨a, b, c, d⟩ := bitLen_spec 64 y h1 h0
  unfold Lib.bitLen
  generalize Lib.bitLenAux 64 y = n at *
  refine ⟨64 - n, by omega, by omega, ?_, ?_⟩
  · have e : (2 : Nat) ^ (n - 1) * 2 ^ (64 - n) = 9223372036854775808 := by rw [← Nat.pow_add]; have : n - 1 + (64 - n) = 63 := by omega
                                                                            rw [this]
    rw [← e]
    exact Nat.mul_le_mul_right _ a
  · have e : (2 : Nat) ^ n * 2 ^ (64 - n) = 18446744073709551616 := by rw [← Nat.pow_add]; have : n + (64 - n) = 64 := by omega
                                                                       rw [this]
    rw [← e]
    exact Nat.mul_lt_mul_of_pos_right b (Nat.two_pow_pos _)
end Go.Proofs.Dv
end
section
namespace Go.Proofs.Bit
set_option linter.unusedVariables false
set_option linter.unusedSimpArgs false

def val : List Nat → Nat
  | [] => 0
  | b :: r => b + 2 * val r
def bitsOf (n : Nat) : List Nat := if h : n = 0 then [] else (n % 2) :: bitsOf (n / 2)
  termination_by n
  decreasing_by omega
def Bin (l : List Nat) : Prop := ∀ b ∈ l, b < 2
def trim (l : List Nat) : List Nat := bitsOf (val l)

theorem bitsOf_zero : bitsOf 0 = [] := by rw [bitsOf]; simp
theorem bitsOf_pos {n : Nat} (h : 0 < n) : bitsOf n = (n % 2) :: bitsOf (n / 2) := by rw [bitsOf]; simp [Nat.ne_of_gt h]
theorem val_bitsOf (n : Nat) : val (bitsOf n) = n := by
  induction n using Nat.strongRecOn with
  | ind n ih =>
    rcases Nat.eq_zero_or_pos n with h | h
    · subst h; rw [bitsOf_zero]; rfl
    · rw [bitsOf_pos h, val, ih _ (by omega)]; omega
theorem bin_bitsOf (n : Nat) : Bin (bitsOf n) := by
  induction n using Nat.strongRecOn with
  | ind n ih =>
    rcases Nat.eq_zero_or_pos n with h | h
    · subst h; rw [bitsOf_zero]; intro b hb; cases hb
    · rw [bitsOf_pos h]
      intro b hb
      rcases List.mem_cons.1 hb with rfl | hb
      · omega
      · exact ih _ (by omega) b hb
theorem Bin.nil : Bin [] := by intro b hb; cases hb
theorem Bin.tail {b : Nat} {r : List Nat} (h : Bin (b :: r)) : Bin r := fun x hx => h x (List.mem_cons_of_mem _ hx)
theorem Bin.head {b : Nat} {r : List Nat} (h : Bin (b :: r)) : b < 2 := h b (List.mem_cons_self)
theorem Bin.append {l m : List Nat} (h : Bin l) (k : Bin m) : Bin (l ++ m) := fun b hb => (List.mem_append.1 hb).elim (h b) (k b)
theorem Bin.take {l : List Nat} (h : Bin l) (k : Nat) : Bin (l.take k) := fun b hb => h b (List.mem_of_mem_take hb)
theorem Bin.drop {l : List Nat} (h : Bin l) (k : Nat) : Bin (l.drop k) := fun b hb => h b (List.mem_of_mem_drop hb)
theorem Bin.one {b : Nat} (h : b < 2) : Bin [b] := by intro x hx; simp at hx; omega
theorem Bin.getD {l : List Nat} (h : Bin l) (i : Nat) : l.getD i 0 < 2 := by
  rcases Nat.lt_or_ge i l.length with hi | hi
  · have : l.getD i 0 = l[i] := by simp [List.getD, hi]
    rw [this]; exact h _ (List.getElem_mem hi)
  · have : l.getD i 0 = 0 := by simp [List.getD, hi]
    omega
theorem val_append (l m : List Nat) : val (l ++ m) = val l + 2 ^ l.length * val m := by
  induction l with
  | nil => simp [val]
  | cons b r ih => simp only [List.cons_append, val, ih, List.length_cons, Nat.pow_succ]; rw [Nat.mul_add, Nat.add_assoc]; congr 1; congr 1; rw [← Nat.mul_assoc]; congr 1; omega
theorem val_lt {l : List Nat} (h : Bin l) : val l < 2 ^ l.length := by
  induction l with
  | nil => simp [val]
  | cons b r ih => have h1 := ih h.tail; have h2 := h.head; simp only [val, List.length_cons, Nat.pow_succ]; omega
theorem length_bitsOf_le {n k : Nat} (h : n < 2 ^ k) : (bitsOf n).length ≤ k := by
  induction k generalizing n with
  | zero => have : n = 0 := by simp at h; exact h
            subst this; rw [bitsOf_zero]; simp
  | succ k ih =>
    rcases Nat.eq_zero_or_pos n with h0 | h0
    · subst h0; rw [bitsOf_zero]; simp
    · rw [bitsOf_pos h0, List.length_cons]
      have := ih (n := n / 2) (by rw [Nat.pow_succ] at h; omega)
      omega
theorem length_bitsOf_gt {n k : Nat} (h : 2 ^ k ≤ n) : k < (bitsOf n).length := by
  rcases Nat.lt_or_ge k (bitsOf n).length with h1 | h1
  · exact h1
  · have h2 := val_lt (bin_bitsOf n)
    rw [val_bitsOf] at h2
    have := Nat.pow_le_pow_right (n := 2) (by omega) h1
    omega
theorem length_bitsOf_iff (n k : Nat) : (bitsOf n).length ≤ k ↔ n < 2 ^ k := by
  constructor
  · intro h
    rcases Nat.lt_or_ge n (2 ^ k) with h1 | h1
    · exact h1
    · have := length_bitsOf_gt h1; omega
  · exact length_bitsOf_le
theorem bitsOf_double (n b : Nat) (hb : b < 2) (h : 0 < 2 * n + b) : bitsOf (2 * n + b) = b :: bitsOf n := by
  rw [bitsOf_pos h]
  have h1 : (2 * n + b) % 2 = b := by omega
  have h2 : (2 * n + b) / 2 = n := by omega
  rw [h1, h2]
theorem trim_snoc_zero (l : List Nat) : trim (l ++ [0]) = trim l := by unfold trim; rw [val_append]; simp [val]
theorem val_snoc (l : List Nat) (b : Nat) : val (l ++ [b]) = val l + 2 ^ l.length * b := by rw [val_append]; simp [val]
theorem bitsOf_val {l : List Nat} (h : Bin l) (hl : ∀ b, l.getLast? = some b → b ≠ 0) : bitsOf (val l) = l := by
  induction l with
  | nil => exact bitsOf_zero
  | cons b r ih =>
    have hb := h.head
    have hr : bitsOf (val r) = r := by
      refine ih h.tail fun x hx => ?_
      rcases r with _ | ⟨y, r⟩
      · cases hx
      · exact hl x (by rw [List.getLast?_cons_cons]; exact hx)
    have hpos : 0 < 2 * val r + b := by
      rcases r with _ | ⟨y, r⟩
      · have := hl b rfl; simp [val]; omega
      · rcases Nat.eq_zero_or_pos (val (y :: r)) with h0 | h0
        · rw [h0, bitsOf_zero] at hr; cases hr
        · omega
    have e : val (b :: r) = 2 * val r + b := by simp only [val]; omega
    rw [e, bitsOf_double _ _ hb hpos, hr]
theorem take_succ_snoc (l : List Nat) (k : Nat) (h : k < l.length) : l.take (k + 1) = l.take k ++ [l.getD k 0] := by
  rw [List.take_succ_eq_append_getElem h]; simp [List.getD, h]
theorem drop_cons (l : List Nat) (k : Nat) (h : k < l.length) : l.drop k = l.getD k 0 :: l.drop (k + 1) := by
  rw [List.drop_eq_getElem_cons h]; simp [List.getD, h]
theorem val_take_succ (l : List Nat) (k : Nat) : val (l.take (k + 1)) = val (l.take k) + 2 ^ k * l.getD k 0 := by
  rcases Nat.lt_or_ge k l.length with h | h
  · rw [take_succ_snoc l k h, val_snoc, List.length_take, Nat.min_eq_left (by omega)]
  · rw [List.take_of_length_le (by omega), List.take_of_length_le (by omega)]
    simp [List.getD, h]
theorem val_drop_succ (l : List Nat) (k : Nat) : val (l.drop k) = 2 * val (l.drop (k + 1)) + l.getD k 0 := by
  rcases Nat.lt_or_ge k l.length with h | h
  · rw [drop_cons l k h, val]; omega
  · rw [List.drop_eq_nil_of_le h, List.drop_eq_nil_of_le (by omega)]
    simp [List.getD, h, val]
theorem val_take_drop (l : List Nat) (k : Nat) (h : k ≤ l.length) : val l = val (l.take k) + 2 ^ k * val (l.drop k) := by
  have e := val_append (l.take k) (l.drop k)
  rw [List.take_append_drop, List.length_take, Nat.min_eq_left h] at e
  exact e
theorem val_take_all (l : List Nat) (k : Nat) (h : l.length ≤ k) : val (l.take k) = val l := by rw [List.take_of_length_le h]
theorem val_take_lt {l : List Nat} (h : Bin l) (k : Nat) : val (l.take k) < 2 ^ k := by
  have h1 := val_lt (h.take k)
  have h2 : (l.take k).length ≤ k := List.length_take_le _ _
  have := Nat.pow_le_pow_right (n := 2) (by omega) h2
  omega
theorem val_split (l : List Nat) (k : Nat) : val l = val (l.take k) + 2 ^ k * l.getD k 0 + 2 ^ k * (2 * val (l.drop (k + 1))) := by
  rcases Nat.lt_or_ge k l.length with h | h
  · rw [val_take_drop l k (by omega), val_drop_succ, Nat.mul_add]
    omega
  · rw [List.take_of_length_le h, List.drop_eq_nil_of_le (by omega)]
    simp [List.getD, h, val]
end Go.Proofs.Bit
end
section
namespace Go.Proofs.YtcbnmoghjhljbaaGreat
open Go.RowKit Go.Proofs.Mem Go.Proofs.Bit
set_option linter.unusedVariables false
set_option linter.unusedSimpArgs false

def bv (b : Nat) : Value := .int .u8 (b : Int)
def Bts (w : World) (v : Value) (l : List Nat) : Prop := Sl w 1 v l.length (l.map bv)

section
variable {w w' : World} {v : Value} {l : List Nat}
theorem Bts.below (h : Bts w v l) (hb : Below w.heap.size w w') : Bts w' v l := Sl.below h hb
theorem Bts.alloc (h : Bts w v l) (o : Obj) : Bts (w.alloc o) v l := Sl.alloc h o
theorem Bts.form (h : Bts w v l) : ∃ A c, v = .slice A l.length c ∧ l.length ≤ c := by
  obtain ⟨A, c, e, hc, _⟩ := h
  exact ⟨A, c, e, hc⟩
theorem Bts.cell {A : Option Addr} {m c k : Nat} (h : Bts w (.slice A m c) l) (hk : k < l.length) : ∃ ad, A = some ad ∧ w.cell? (ad.add k) = some (.int .u8 ((l.getD k 0 : Nat) : Int)) := by
  obtain ⟨ad, e, _, hc⟩ := Sl.cell1 (k := k) (u := bv (l.getD k 0)) h (by simp [List.getD, hk])
  exact ⟨ad, e, hc⟩
theorem Bts.cellb {A : Option Addr} {m c k : Nat} (h : Bts w (.slice A m c) l) (hk : k < l.length) : ∃ ad, A = some ad ∧ ad.block < w.heap.size ∧ w.cell? (ad.add k) = some (.int .u8 ((l.getD k 0 : Nat) : Int)) :=
  Sl.cell1 (k := k) (u := bv (l.getD k 0)) h (by simp [List.getD, hk])
theorem Bts.take {A : Option Addr} {c k : Nat} (h : Bts w (.slice A l.length c) l) (hk : k ≤ l.length) : Bts w (.slice A k c) (l.take k) := by
  have := Sl.take (k := k) h hk
  unfold Bts
  rw [List.length_take, Nat.min_eq_left hk, List.map_take]
  simpa using this
theorem Bts.of_own {base : Nat} (h : w.ownsRow base 5 1 v l.length (l.map bv)) : Bts w v l := Sl.of_own h
theorem Bts.one (w : World) (b : Nat) : Bts (w.alloc (.cells #[.int .u8 (b : Int)] 5)) (.slice (some ⟨w.heap.size, 0, none⟩) 1 1) [b] := Sl.made w _ _ 1 1 (Nat.le_refl _) rfl
theorem bv_one (l : List Nat) : ∀ u ∈ l.map bv, u.oneCell' = true := int_one _ _ l
theorem own_empty (w : World) (base : Nat) (hb : base ≤ w.heap.size) : (w.alloc (.cells #[] 5)).ownsRow base 5 1 (.slice (some ⟨w.heap.size, 0, none⟩) 0 0) ([] : List Nat).length (([] : List Nat).map bv) :=
  ⟨rfl, .inr ⟨w.heap.size, 0, #[], rfl, hb, heap_alloc_new w _, Nat.le_refl _, Nat.zero_le _, rfl, rfl⟩⟩
end

theorem info_u8 : (Tryz.prog.info? 5).map (fun i => (i.zero, i.size, i.bytes)) = some (some (.int .u8 0), 1, 1) := by kernel_rfl

theorem at_any (l : List Nat) (v : Value) (i : Nat) (w : World) (hl : l.length ≤ 4096) (hi : i ≤ 4096) (h : Bts w v l) :
    Calls Tryz.prog 73 #[v, .int .i64 i] w fun e w' => e = .returned (.int .u8 ((l.getD i 0 : Nat) : Int)) ∧ w = w' := by
  obtain ⟨A, c, rfl, hc⟩ := h.form
  by_cases hlt : i < l.length
  · obtain ⟨ad, rfl, hcell⟩ := h.cell hlt
    generalize l.getD i 0 = x at *
    go_enter Tryz.func73, Tryz.ntmps73
    go_wp2
    go_ret
    exact ⟨rfl, rfl⟩
  · have e : l.getD i 0 = 0 := by simp [List.getD, hlt]
    rw [e]
    go_enter Tryz.func73, Tryz.ntmps73
    go_wp2
    go_ret
    exact ⟨rfl, rfl⟩

theorem trim_take (l : List Nat) (j : Nat) (hj : j < l.length) (h0 : l.getD j 0 = 0) : Bit.trim (l.take (j + 1)) = Bit.trim (l.take j) := by
  rw [take_succ_snoc l j hj, h0, trim_snoc_zero]
theorem trim_done (l : List Nat) (hb : Bin l) (j : Nat) (hj : j < l.length) (h0 : l.getD j 0 ≠ 0) : Bit.trim (l.take (j + 1)) = l.take (j + 1) := by
  refine bitsOf_val (hb.take _) fun b hb' => ?_
  rw [take_succ_snoc l j hj, List.getLast?_append] at hb'
  simp at hb'
  simpa [List.getD] using hb' ▸ (by simpa [List.getD] using h0)
def SomeBts (w : World) (r : List Nat) (e : Ending) (w' : World) : Prop := ∃ v', e = .returned v' ∧ Bts w v' r ∧ w = w'
def Shorter (w : World) (A : Option Addr) (c : Nat) (l : List Nat) (e : Ending) (w' : World) : Prop := ∃ k, e = .returned (.slice A k c) ∧ k ≤ l.length ∧ Bit.trim l = l.take k ∧ w = w'
theorem trim_core (l : List Nat) (A : Option Addr) (c : Nat) (w : World) (hl : l.length ≤ 4096) (hb : Bin l) (h : Bts w (.slice A l.length c) l) :
    Calls Tryz.prog 71 #[.slice A l.length c] w (Shorter w A c l) := by
  have hc : l.length ≤ c := (Sl.parts h).2.1
  go_enter Tryz.func71, Tryz.ntmps71
  go_wp2
  go_loop [0] (fun v => ∃ k : Nat, k ≤ l.length ∧ v = .slice A k c ∧ Bit.trim (l.take k) = Bit.trim l) (fun v => match v with | .slice _ k _ => k | _ => 0)
  case atStart => exact ⟨l.length, Nat.le_refl _, rfl, by simp⟩
  case round =>
    obtain ⟨k, hk, rfl, ht⟩ := hrel
    have HT := Lib.hid ht
    clear ht
    rcases k with _ | j
    · go_wp2
      go_ret
      exact ⟨0, rfl, Nat.zero_le _, by rw [← HT.out]; simp [Bit.trim, Bit.val, bitsOf_zero], rfl⟩
    · obtain ⟨ad, rfl, hcell⟩ := h.cell (k := j) (by omega)
      have H1 := Lib.hid (trim_take l j (by omega))
      have H2 := Lib.hid (trim_done l hb j (by omega))
      clear h
      generalize l.getD j 0 = x at *
      go_wp2
      · have h0 : x = 0 := by have hx : ((x : Int) == 0) = true := by assumption
                              simpa using hx
        go_round
        case rel => exact ⟨j, by omega, rfl, by rw [← H1.out h0]; exact HT.out⟩
        case measure => exact Nat.lt_succ_self j
      · have h0 : x ≠ 0 := by have hx : ((x : Int) == 0) = false := by assumption
                              intro e; subst e; simp at hx
        go_ret
        exact ⟨j + 1, rfl, hk, by rw [← HT.out, H2.out h0], rfl⟩
theorem trim_any (l : List Nat) (v : Value) (w : World) (hl : l.length ≤ 4096) (hb : Bin l) (h : Bts w v l) :
    Calls Tryz.prog 71 #[v] w (SomeBts w (Bit.trim l)) := by
  obtain ⟨A, c, rfl, hc⟩ := h.form
  refine (trim_core l A c w hl hb h).mono ?_
  rintro e w' ⟨k, rfl, hk, ht, rfl⟩
  exact ⟨_, rfl, by rw [ht]; exact h.take hk, rfl⟩

def OwnBts (w : World) (r : List Nat) (e : Ending) (w' : World) : Prop := ∃ v', e = .returned v' ∧ w'.ownsRow w.heap.size 5 1 v' r.length (r.map bv) ∧ Below w.heap.size w w'
theorem trim_own (l : List Nat) (v : Value) (w : World) (base : Nat) (hl : l.length ≤ 4096) (hb : Bin l) (h : w.ownsRow base 5 1 v l.length (l.map bv)) :
    Calls Tryz.prog 71 #[v] w fun e w' => ∃ v', e = .returned v' ∧ w.ownsRow base 5 1 v' (bitsOf (val l)).length ((bitsOf (val l)).map bv) ∧ w = w' := by
  obtain ⟨A, c, rfl, hc⟩ := (Bts.of_own h).form
  refine (trim_core l A c w hl hb (Bts.of_own h)).mono ?_
  rintro e w' ⟨k, rfl, hk, ht, rfl⟩
  refine ⟨_, rfl, ?_, rfl⟩
  have e : bitsOf (val l) = l.take k := ht
  rw [e, List.length_take, Nat.min_eq_left hk]
  obtain ⟨hl', h2⟩ := h
  refine ⟨by simp [hk], ?_⟩
  rcases h2 with ⟨hv, h0⟩ | ⟨g, cap, cur, hv, hg, hh, hnc, hcm, hcs, htake⟩
  · injection hv with h1 h2 h3
    subst h1; subst h3
    obtain rfl : k = 0 := by omega
    exact .inl ⟨rfl, rfl⟩
  · injection hv with h1 h2 h3
    subst h1; subst h3
    refine .inr ⟨g, _, cur, rfl, hg, hh, by omega, hcm, hcs, ?_⟩
    have e3 := congrArg (List.take (k * 1)) htake
    rw [List.take_take] at e3
    rw [Nat.min_eq_left (by omega)] at e3
    rw [e3, List.map_take, Nat.mul_one]

def NewBts (w : World) (r : List Nat) (e : Ending) (w' : World) : Prop := ∃ v', e = .returned v' ∧ Bts w' v' r ∧ Below w.heap.size w w'

theorem wpl_push {w : World} {ops : Array Oper} {rest : List Oper} {o : Oper} {a : Act} {Q : Exit → Act → World → Prop} (hgd : o.guard = none) (s x : Operand)
    (ho : o.op = .call { callee := .builtin .append, args := #[s, x], argTypes := #[137, 137] }) {base B : Nat} {W : World} {v : Value} {l : List Nat} (hown : w.ownsRow base 5 1 v l.length (l.map bv)) (b : Nat)
    (hbw : Below B W w) (hB : B ≤ base) (hb : base ≤ w.heap.size) (hl : l.length ≤ 4096) (hs : a.eval s = v) (hx : a.eval x = .slice (some ⟨w.heap.size, 0, none⟩) 1 1) (z : Int) (hz : z = (b : Int))
    (h : ∀ v' w', w'.ownsRow base 5 1 v' (l ++ [b]).length ((l ++ [b]).map bv) → Below B W w' → base ≤ w'.heap.size → wpList Tryz.prog ops Q rest (a.put o.dst v') w') :
    wpList Tryz.prog ops Q (o :: rest) a (w.alloc (.cells #[.int .u8 z] 5)) := by
  subst hz
  refine wpl_append hgd s x _ ho base 5 _ 1 1 Tryz.underlying137 info_u8 rfl (by omega) (by omega) v _ _ hs (hown.alloc _) _ 1 [bv b] hx (Bts.one w b) (by intro u hu; simp at hu; subst hu; rfl) (by omega) (by simp; omega) ?_
  intro v' w' h1 h2 _
  have hb1 : Below B W (w.alloc (.cells #[.int .u8 (b : Int)] 5)) := hbw.alloc (by omega) _
  refine h v' w' (by simpa using h1) (below_grown hb1 (hown.alloc _) h2 (by simp; omega) hB) ?_
  have := h2.size
  simp at this
  omega

theorem of_rel (x y : Nat) (o : List Nat) (h : bitsOf x = o ++ bitsOf y) (hy : 0 < y) : bitsOf x = (o ++ [y % 2]) ++ bitsOf (y / 2) := by
  rw [h, bitsOf_pos hy]; simp
theorem of_own (x : Nat) (w : World) (hx : x < 18446744073709551616) :
    Calls Tryz.prog 54 #[.int .u64 x] w (OwnBts w (bitsOf x)) := by
  have hlen : (bitsOf x).length ≤ 64 := length_bitsOf_le (by omega)
  go_enter Tryz.func54, Tryz.ntmps54
  go_wp2_with fail
  go_loopw [0, 3] (fun u v wr => ∃ (y : Nat) (o : List Nat), y ≤ x ∧ u = .int .u64 y ∧ wr.ownsRow w.heap.size 5 1 v o.length (o.map bv) ∧ Below w.heap.size w wr ∧ bitsOf x = o ++ bitsOf y)
    (fun u _ _ => (intOf u).toNat)
  case atStart => exact ⟨x, [], Nat.le_refl _, rfl, own_empty w _ (Nat.le_refl _), (Below.refl _ _).alloc (Nat.le_refl _) _, rfl⟩
  case round =>
    obtain ⟨y, o, hy, rfl, hown, hbw, hbits⟩ := hrel
    have ho : o.length ≤ 64 := by rw [hbits, List.length_append] at hlen; omega
    by_cases h0 : 0 < y
    · have H := Lib.hid (of_rel x y o hbits h0)
      clear hbits
      have hsz := hbw.size
      go_wp2_with (at_builtin; refine wpl_push rfl _ _ rfl hown (y % 2) hbw (Nat.le_refl _) hsz (by omega) rfl rfl _ (by omega) ?_; intro v' w' hown' hbw' hsz')
      go_roundw
      case rel => exact ⟨y / 2, _, by omega, by go_num, hown', hbw', H.out⟩
      case measure => simp [intOf]; omega
    · obtain rfl : y = 0 := by omega
      rw [bitsOf_zero, List.append_nil] at hbits
      have H := Lib.hid hbits
      clear hbits
      go_wp2
      go_ret
      exact ⟨_, rfl, by rw [H.out]; exact hown, hbw⟩
theorem of_any (x : Nat) (w : World) (hx : x < 18446744073709551616) :
    Calls Tryz.prog 54 #[.int .u64 x] w (NewBts w (bitsOf x)) :=
  (of_own x w hx).mono fun e w' ⟨v, he, h, hb⟩ => ⟨v, he, Bts.of_own h, hb⟩

theorem number_rel (m n x y : Nat) (hy : m % 18446744073709551616 = y) (h : n = 2 * m + x) : Value.int .u64 (IntKind.u64.wrap (IntKind.u64.wrap ((y : Int) * 2) + (x : Int))) = .int .u64 ((n % 18446744073709551616 : Nat) : Int) := by
  rw [IntKind.wrap_u64, IntKind.wrap_u64]
  have e : ((y : Int) * 2 % 18446744073709551616 + (x : Int)) % 18446744073709551616 = ((n % 18446744073709551616 : Nat) : Int) := by omega
  rw [e]
theorem number_any (l : List Nat) (v : Value) (w : World) (hl : l.length ≤ 4096) (hb : Bin l) (h : Bts w v l) :
    Calls Tryz.prog 57 #[v] w fun e w' => e = .returned (.tuple #[.int .u64 ((val l % 18446744073709551616 : Nat) : Int), .bool (decide ((l.length : Int) ≤ 64))]) ∧ w = w' := by
  obtain ⟨A, c, rfl, hc⟩ := h.form
  go_enter Tryz.func57, Tryz.ntmps57
  go_wp2_with fail
  go_loop [4, 5] (fun o i => ∃ k : Nat, k ≤ l.length ∧ i = .int .i64 ((k : Int) - 1) ∧ o = .int .u64 ((val (l.drop k) % 18446744073709551616 : Nat) : Int)) (fun _ i => (intOf i + 1).toNat)
  case atStart => exact ⟨l.length, Nat.le_refl _, rfl, by rw [List.drop_length]; rfl⟩
  case round =>
    obtain ⟨k, hk, rfl, rfl⟩ := hrel
    rcases k with _ | j
    · go_wp2
      go_ret2
      exact ⟨rfl, rfl⟩
    · obtain ⟨ad, rfl, hcell⟩ := h.cell (k := j) (by omega)
      have hx := hb.getD j
      have e1 : ((j + 1 : Nat) : Int) - 1 = j := by omega
      have H := Lib.hid (val_drop_succ l j)
      generalize l.getD j 0 = x at *
      generalize hy : val (l.drop (j + 1)) % 18446744073709551616 = y at *
      have hyb : y < 18446744073709551616 := by omega
      have HY := Lib.hid hy
      clear hy hb h
      rw [e1]
      clear e1
      go_wp2
      go_round
      case rel => exact ⟨j, by omega, rfl, number_rel _ _ _ _ HY.out H.out⟩
      case measure => simp [intOf]

theorem add_rel (a b o : List Nat) (k x y cy : Nat) (ho : o.length = k) (hx : a.getD k 0 = x) (hy : b.getD k 0 = y) (h : val o + 2 ^ k * cy = val (a.take k) + val (b.take k)) :
    val (o ++ [(x + y + cy) % 2]) + 2 ^ (k + 1) * ((x + y + cy) / 2) = val (a.take (k + 1)) + val (b.take (k + 1)) := by
  rw [val_snoc, ho, val_take_succ, val_take_succ, hx, hy, Nat.pow_succ, Nat.mul_assoc, Nat.add_assoc, ← Nat.mul_add, Nat.mod_add_div, Nat.mul_add, Nat.mul_add]
  omega
theorem bin_push {o : List Nat} (h : Bin o) (x : Nat) : Bin (o ++ [x % 2]) := h.append (Bin.one (Nat.mod_lt _ (by omega)))
theorem getD_ge (a : List Nat) (k : Nat) (h : a.length ≤ k) : a.getD k 0 = 0 := by simp [List.getD, h]
theorem add_any (a b : List Nat) (u v : Value) (w : World) (hla : a.length ≤ 2000) (hlb : b.length ≤ 2000) (hba : Bin a) (hbb : Bin b) (ha : Bts w u a) (hb : Bts w v b) :
    Calls Tryz.prog 55 #[u, v] w (OwnBts w (bitsOf (val a + val b))) := by
  obtain ⟨A, c, rfl, hc⟩ := ha.form
  obtain ⟨B, d, rfl, hd⟩ := hb.form
  go_enter Tryz.func55, Tryz.ntmps55
  go_wp2_with fail
  go_loopw [5, 6, 7] (fun out cr i wr => ∃ (k cy : Nat) (o : List Nat), k + cy ≤ max a.length b.length + 1 ∧ cy ≤ 1 ∧ i = .int .i64 k ∧ cr = .int .u8 cy ∧ wr.ownsRow w.heap.size 5 1 out o.length (o.map bv) ∧ Below w.heap.size w wr ∧
      o.length = k ∧ Bin o ∧ val o + 2 ^ k * cy = val (a.take k) + val (b.take k))
    (fun _ _ i _ => (max a.length b.length + 1) - (intOf i).toNat)
  case atStart => exact ⟨0, 0, [], by omega, by omega, rfl, rfl, own_empty w _ (Nat.le_refl _), (Below.refl _ _).alloc (Nat.le_refl _) _, rfl, Bin.nil, by simp [val]⟩
  case round =>
    obtain ⟨k, cy, o, hk, hcy, rfl, rfl, hown, hbw, ho, hbo, hval⟩ := hrel
    have HA := Lib.hid (at_any a _ k wr (by omega) (by omega) (ha.below hbw))
    have HB := Lib.hid (at_any b _ k wr (by omega) (by omega) (hb.below hbw))
    have HR := Lib.hid (fun x y hx hy => add_rel a b o k x y cy ho hx hy hval)
    have hx := hba.getD k
    have hy := hbb.getD k
    have hsz := hbw.size
    have HO := Lib.hid ho
    have HV := Lib.hid hval
    clear ho hval
    have h4 : k < a.length ∨ (¬ k < a.length ∧ k < b.length) ∨ (¬ k < a.length ∧ ¬ k < b.length ∧ 0 < cy) ∨ (¬ k < a.length ∧ ¬ k < b.length ∧ cy = 0) := by omega
    have HZ := Lib.hid (getD_ge a k)
    have HZ' := Lib.hid (getD_ge b k)
    generalize hxe : a.getD k 0 = x at *
    generalize hye : b.getD k 0 = y at *
    have HX := Lib.hid hxe
    have HY := Lib.hid hye
    clear hxe hye
    rcases h4 with h4 | ⟨h4, h5⟩ | ⟨h4, h5, h6⟩ | ⟨h4, h5, rfl⟩
    case inr.inr.inr =>
      have e := val_take_all a k (by omega)
      have e' := val_take_all b k (by omega)
      have e2 : val o = val a + val b := by have := HV.out; rw [e, e'] at this; omega
      go_wp2_with (go_at_call 71; refine (trim_own o _ wr _ (by have := HO.out; omega) hbo hown).mono ?_; rintro e w1 ⟨v1, rfl, hv1, rfl⟩)
      go_ret
      exact ⟨_, rfl, by rw [← e2]; exact hv1, hbw⟩
    all_goals
      go_wp2_with (first
        | (go_at_call 73; (with_reducible refine (HA.out).mono ?_); rintro e w' ⟨rfl, rfl⟩)
        | (go_at_call 73; (with_reducible refine (HB.out).mono ?_); rintro e w' ⟨rfl, rfl⟩)
        | (at_builtin; go_must (refine wpl_push rfl _ _ rfl hown ((x + y + cy) % 2) hbw (Nat.le_refl _) hsz (by have := HO.out; omega) rfl rfl _ (by omega) ?_); intro v' w' hown' hbw' hsz'))
      go_roundw
      case rel => exact ⟨k + 1, (x + y + cy) / 2, _, by have := HZ.out; have := HZ'.out; omega, by omega, by go_num, by go_num, hown', hbw', by simp [HO.out], bin_push hbo _, HR.out x y rfl rfl⟩
      case measure => simp [intOf]; omega

def cmpN (x y : Nat) : Int := if y < x then 1 else if x < y then -1 else 0
theorem cmp_gt (a b : List Nat) (k x y : Nat) (hx : a.getD k 0 = x) (hy : b.getD k 0 = y) (ha : Bin a) (hb : Bin b) (h : val (a.drop (k + 1)) = val (b.drop (k + 1))) (hxy : y < x) : cmpN (val a) (val b) = 1 := by
  unfold cmpN
  have e1 := val_split a k; have e2 := val_split b k
  rw [hx] at e1; rw [hy] at e2
  have l1 := val_lt (ha.take k); have l2 := val_take_lt hb k
  have e3 : 2 ^ k * y + 2 ^ k ≤ 2 ^ k * x := by rw [← Nat.mul_succ]; exact Nat.mul_le_mul_left _ hxy
  rw [if_pos (by rw [e1, e2, h]; omega)]
theorem cmp_lt (a b : List Nat) (k x y : Nat) (hx : a.getD k 0 = x) (hy : b.getD k 0 = y) (ha : Bin a) (hb : Bin b) (h : val (a.drop (k + 1)) = val (b.drop (k + 1))) (hxy : x < y) : cmpN (val a) (val b) = -1 := by
  have := cmp_gt b a k y x hy hx hb ha h.symm hxy
  unfold cmpN at this ⊢
  split at this
  · rw [if_neg (by omega), if_pos (by omega)]
  · split at this <;> simp at this
theorem cmp_step (a b : List Nat) (k : Nat) (h : val (a.drop (k + 1)) = val (b.drop (k + 1))) (hxy : a.getD k 0 = b.getD k 0) : val (a.drop k) = val (b.drop k) := by
  rw [val_drop_succ a k, val_drop_succ b k, h, hxy]
theorem cmp_same (a b : List Nat) (h : val a = val b) : cmpN (val a) (val b) = 0 := by unfold cmpN; rw [if_neg (by omega), if_neg (by omega)]
theorem cmp_start (a b : List Nat) (k : Nat) (ha : a.length ≤ k) (hb : b.length ≤ k) : val (a.drop k) = val (b.drop k) := by
  rw [List.drop_eq_nil_of_le ha, List.drop_eq_nil_of_le hb]
theorem cmp_any (a b : List Nat) (u v : Value) (w : World) (hla : a.length ≤ 2000) (hlb : b.length ≤ 2000) (hba : Bin a) (hbb : Bin b) (ha : Bts w u a) (hb : Bts w v b) :
    Calls Tryz.prog 56 #[u, v] w fun e w' => e = .returned (.int .i64 (cmpN (val a) (val b))) ∧ w = w' := by
  obtain ⟨A, c, rfl, hc⟩ := ha.form
  obtain ⟨B, d, rfl, hd⟩ := hb.form
  obtain ⟨m, hm, hma, hmb⟩ : ∃ m, (a.length < b.length ∧ m = b.length ∨ ¬ a.length < b.length ∧ m = a.length) ∧ a.length ≤ m ∧ b.length ≤ m := by
    by_cases h : a.length < b.length
    · exact ⟨_, .inl ⟨h, rfl⟩, by omega, by omega⟩
    · exact ⟨_, .inr ⟨h, rfl⟩, by omega, by omega⟩
  have H0 := Lib.hid (cmp_start a b m hma hmb)
  have HS := Lib.hid (cmp_same a b)
  rcases hm with ⟨hm, rfl⟩ | ⟨hm, rfl⟩
  all_goals
    go_enter Tryz.func56, Tryz.ntmps56
    go_wp2_with fail
    go_loop [5] (fun i => ∃ k : Nat, k ≤ a.length + b.length ∧ i = .int .i64 ((k : Int) - 1) ∧ val (a.drop k) = val (b.drop k)) (fun i => (intOf i + 1).toNat)
    case atStart => exact ⟨_, by first | exact Nat.le_add_left _ _ | exact Nat.le_add_right _ _, rfl, H0.out⟩
    case round =>
      obtain ⟨k, hk, rfl, hv⟩ := hrel
      rcases k with _ | j
      · have HV := Lib.hid hv
        clear hv
        go_wp2
        go_ret
        exact ⟨ret_int (HS.out (by simpa using HV.out)).symm, rfl⟩
      · have e1 : ((j + 1 : Nat) : Int) - 1 = j := by omega
        have HA := Lib.hid (at_any a _ j w (by omega) (by omega) ha)
        have HB := Lib.hid (at_any b _ j w (by omega) (by omega) hb)
        have HG := Lib.hid (fun x y hx hy => cmp_gt a b j x y hx hy hba hbb hv)
        have HL := Lib.hid (fun x y hx hy => cmp_lt a b j x y hx hy hba hbb hv)
        have HE := Lib.hid (cmp_step a b j hv)
        clear hv
        generalize a.getD j 0 = x at *
        generalize b.getD j 0 = y at *
        rw [e1]
        clear e1
        rcases Nat.lt_trichotomy x y with h3 | h3 | h3
        all_goals
          go_wp2_with (first
            | (go_at_call 73; (with_reducible refine (HA.out).mono ?_); rintro e w' ⟨rfl, rfl⟩)
            | (go_at_call 73; (with_reducible refine (HB.out).mono ?_); rintro e w' ⟨rfl, rfl⟩))
        · go_ret
          exact ⟨ret_int (HL.out x y rfl rfl h3).symm, rfl⟩
        · go_round
          case rel => exact ⟨j, by omega, rfl, HE.out h3⟩
          case measure => simp [intOf]
        · go_ret
          exact ⟨ret_int (HG.out x y rfl rfl h3).symm, rfl⟩

theorem sub_rel (a b o : List Nat) (k x y bo : Nat) (ho : o.length = k) (hx : a.getD k 0 = x) (hy : b.getD k 0 = y) (hx2 : x < 2) (hy2 : y < 2) (hb : bo ≤ 1) (h : val o + val (b.take k) = val (a.take k) + 2 ^ k * bo) :
    val (o ++ [(2 + x - y - bo) % 2]) + val (b.take (k + 1)) = val (a.take (k + 1)) + 2 ^ (k + 1) * (1 - (2 + x - y - bo) / 2) := by
  rw [val_snoc, ho, val_take_succ, val_take_succ, hx, hy, Nat.pow_succ, Nat.mul_assoc]
  have e : bo + (2 + x - y - bo) % 2 + y = x + 2 * (1 - (2 + x - y - bo) / 2) := by omega
  have e2 : 2 ^ k * (bo + (2 + x - y - bo) % 2 + y) = 2 ^ k * (x + 2 * (1 - (2 + x - y - bo) / 2)) := by rw [e]
  rw [Nat.mul_add, Nat.mul_add, Nat.mul_add] at e2
  omega
theorem sub_end (a b o : List Nat) (bo : Nat) (ho : o.length = a.length) (hbo : Bin o) (hba : Bin a) (hbb : Bin b) (h : val o + val (b.take a.length) = val (a.take a.length) + 2 ^ a.length * bo) (hle : val b ≤ val a) : val o = val a - val b := by
  rw [val_take_all a _ (Nat.le_refl _)] at h
  have l1 := val_lt hbo
  have l2 := val_lt hba
  rw [ho] at l1
  have l3 : val b = val (b.take a.length) := by
    rcases Nat.lt_or_ge a.length b.length with h1 | h1
    · have e := val_take_drop b a.length (by omega)
      rcases Nat.eq_zero_or_pos (val (b.drop a.length)) with h0 | h0
      · rw [h0] at e; omega
      · have : 2 ^ a.length * 1 ≤ 2 ^ a.length * val (b.drop a.length) := Nat.mul_le_mul_left _ h0
        omega
    · exact (val_take_all b _ h1).symm
  rcases Nat.eq_zero_or_pos bo with h0 | h0
  · subst h0; omega
  · have : 2 ^ a.length * 1 ≤ 2 ^ a.length * bo := Nat.mul_le_mul_left _ h0
    omega
theorem sub_any (a b : List Nat) (u v : Value) (w : World) (hla : a.length ≤ 2000) (hlb : b.length ≤ 2000) (hba : Bin a) (hbb : Bin b) (ha : Bts w u a) (hb : Bts w v b) (hle : val b ≤ val a) :
    Calls Tryz.prog 72 #[u, v] w (OwnBts w (bitsOf (val a - val b))) := by
  obtain ⟨A, c, rfl, hc⟩ := ha.form
  obtain ⟨B, d, rfl, hd⟩ := hb.form
  go_enter Tryz.func72, Tryz.ntmps72
  go_wp2_with fail
  go_loopw [5, 6, 12] (fun out br i wr => ∃ (k bo : Nat) (o : List Nat), k ≤ a.length ∧ bo ≤ 1 ∧ i = .int .i64 k ∧ br = .int .u8 bo ∧ wr.ownsRow w.heap.size 5 1 out o.length (o.map bv) ∧ Below w.heap.size w wr ∧
      o.length = k ∧ Bin o ∧ val o + val (b.take k) = val (a.take k) + 2 ^ k * bo)
    (fun _ _ i _ => a.length - (intOf i).toNat)
  case atStart => exact ⟨0, 0, [], by omega, by omega, rfl, rfl, own_empty w _ (Nat.le_refl _), (Below.refl _ _).alloc (Nat.le_refl _) _, rfl, Bin.nil, by simp [val]⟩
  case round =>
    obtain ⟨k, bo, o, hk, hbo, rfl, rfl, hown, hbw, ho, hbin, hval⟩ := hrel
    have hx := hba.getD k
    have hy := hbb.getD k
    have HA := Lib.hid (at_any a _ k wr (by omega) (by omega) (ha.below hbw))
    have HB := Lib.hid (at_any b _ k wr (by omega) (by omega) (hb.below hbw))
    have HR := Lib.hid (fun x y hx hy hx2 hy2 => sub_rel a b o k x y bo ho hx hy hx2 hy2 hbo hval)
    have HE := Lib.hid (fun e : k = a.length => sub_end a b o bo (ho.trans e) hbin hba hbb (by rw [← e]; exact hval) hle)
    have hsz := hbw.size
    have HO := Lib.hid ho
    clear ho hval
    by_cases h1 : k < a.length
    · generalize a.getD k 0 = x at *
      generalize b.getD k 0 = y at *
      go_wp2_with (first
        | (go_at_call 73; (with_reducible refine (HA.out).mono ?_); rintro e w' ⟨rfl, rfl⟩)
        | (go_at_call 73; (with_reducible refine (HB.out).mono ?_); rintro e w' ⟨rfl, rfl⟩)
        | (at_builtin; go_must (refine wpl_push rfl _ _ rfl hown ((2 + x - y - bo) % 2) hbw (Nat.le_refl _) hsz (by have := HO.out; omega) rfl rfl _ (by omega) ?_); intro v' w' hown' hbw' hsz'))
      go_roundw
      case rel => exact ⟨k + 1, 1 - (2 + x - y - bo) / 2, _, by omega, by omega, by go_num, by go_num, hown', hbw', by simp [HO.out], bin_push hbin _, HR.out x y rfl rfl hx hy⟩
      case measure => simp [intOf]; omega
    · obtain rfl : k = a.length := by omega
      have e2 := HE.out rfl
      go_wp2_with (go_at_call 71; refine (trim_own o _ wr _ (by have := HO.out; omega) hbin hown).mono ?_; rintro e w1 ⟨v1, rfl, hv1, rfl⟩)
      go_ret
      exact ⟨_, rfl, by rw [← e2]; exact hv1, hbw⟩

theorem mul_rel (n m x : Nat) (hx : n = 2 * m + x) (z : Nat) : n * z = 2 * (m * z) + x * z := by subst hx; rw [Nat.add_mul, Nat.mul_assoc]
theorem length_mul {x y n m : Nat} (hx : x < 2 ^ n) (hy : y < 2 ^ m) : (bitsOf (x * y)).length ≤ n + m := by
  refine length_bitsOf_le ?_
  rw [Nat.pow_add]
  exact Nat.mul_lt_mul'' hx hy
theorem length_add {x y n : Nat} (hx : (bitsOf x).length ≤ n) (hy : (bitsOf y).length ≤ n) : (bitsOf (x + y)).length ≤ n + 1 := by
  have h1 := (length_bitsOf_iff x n).1 hx
  have h2 := (length_bitsOf_iff y n).1 hy
  exact length_bitsOf_le (by rw [Nat.pow_succ]; omega)
theorem mul_any (a b : List Nat) (u v : Value) (w : World) (hla : a.length ≤ 900) (hlb : b.length ≤ 900) (hba : Bin a) (hbb : Bin b) (ha : Bts w u a) (hb : Bts w v b) :
    Calls Tryz.prog 53 #[u, v] w (NewBts w (bitsOf (val a * val b))) := by
  obtain ⟨B, d, rfl, hd⟩ := hb.form
  have hlen : ∀ k, (bitsOf (val (b.drop k) * val a)).length ≤ 1800 := by
    intro k
    have := length_mul (val_lt (hbb.drop k)) (val_lt hba)
    have l3 : (b.drop k).length ≤ 900 := by rw [List.length_drop]; omega
    omega
  have HL := Lib.hid hlen
  clear hlen
  go_enter Tryz.func53, Tryz.ntmps53
  go_wp2_with fail
  go_loopw [5, 6] (fun out i wr => ∃ k : Nat, k ≤ b.length ∧ i = .int .i64 ((k : Int) - 1) ∧ Bts wr out (bitsOf (val (b.drop k) * val a)) ∧ Below w.heap.size w wr)
    (fun _ i _ => (intOf i + 1).toNat)
  case atStart => exact ⟨b.length, Nat.le_refl _, rfl, by rw [List.drop_length, val, Nat.zero_mul, bitsOf_zero]; exact Bts.of_own (own_empty w _ (Nat.le_refl _)), (Below.refl _ _).alloc (Nat.le_refl _) _⟩
  case round =>
    obtain ⟨k, hk, rfl, hout, hbw⟩ := hrel
    rcases k with _ | j
    · have H := Lib.hid hout
      clear hout
      go_wp2_with fail
      go_ret
      exact ⟨_, rfl, by have := H.out; rw [List.drop_zero, Nat.mul_comm] at this; exact this, hbw⟩
    · have e1 : ((j + 1 : Nat) : Int) - 1 = j := by omega
      obtain ⟨ad, rfl, hblk, hcell⟩ := (hb.below hbw).cellb (k := j) (by omega)
      have hx := hbb.getD j
      have HR := Lib.hid (mul_rel _ _ _ (val_drop_succ b j) (val a))
      have H1 := Lib.hid (HL.out (j + 1))
      have H2 := Lib.hid (HL.out j)
      generalize b.getD j 0 = x at *
      generalize val (b.drop (j + 1)) * val a = m at *
      have C1 := Lib.hid (add_any (bitsOf m) (bitsOf m) u5 u5 wr (by have := H1.out; omega) (by have := H1.out; omega) (bin_bitsOf _) (bin_bitsOf _) hout hout)
      rw [e1]
      clear e1 hout
      have hx2 : x = 0 ∨ x = 1 := by omega
      clear hx
      rcases hx2 with rfl | rfl
      · go_wp2_with (go_at_call 55; refine C1.out.mono ?_; rintro e w1 ⟨v1, rfl, hv1, hb1⟩; have hcell1 := below_at hb1 hblk hcell)
        go_roundw
        case rel => exact ⟨j, by omega, rfl, by rw [HR.out, Nat.zero_mul, Nat.add_zero, Nat.two_mul]; simpa [val_bitsOf] using Bts.of_own hv1, hbw.trans (hb1.mono hbw.size)⟩
        case measure => simp [intOf]
      · go_wp2_with (first
          | (go_at_call 55; (with_reducible refine C1.out.mono ?_); rintro e w1 ⟨v1, rfl, hv1, hb1⟩; have hcell1 := below_at hb1 hblk hcell; have C2 := Lib.hid (add_any _ a v1 u w1 (by simp only [val_bitsOf]; have := length_add H1.out H1.out; omega) (by omega) (bin_bitsOf _) hba (Bts.of_own hv1) (ha.below (hbw.trans (hb1.mono hbw.size)))))
          | (go_at_call 55; (with_reducible refine C2.out.mono ?_); rintro e w2 ⟨v2, rfl, hv2, hb2⟩))
        go_roundw
        case rel => exact ⟨j, by omega, rfl, by rw [HR.out, Nat.one_mul, Nat.two_mul]; simpa [val_bitsOf] using Bts.of_own hv2, (hbw.trans (hb1.mono hbw.size)).trans (hb2.mono (by have := hbw.size; have := hb1.size; omega))⟩
        case measure => simp [intOf]

end Go.Proofs.YtcbnmoghjhljbaaGreat
end
section
namespace Go.Proofs.YtcbnmoghjhljbaaGreat
open Go.RowKit Go.Proofs.Mem Go.Proofs.Bit
set_option linter.unusedVariables false
set_option linter.unusedSimpArgs false

theorem wpl_cat {w : World} {ops : Array Oper} {rest : List Oper} {o : Oper} {a : Act} {Q : Exit → Act → World → Prop} (hgd : o.guard = none) (s x : Operand)
    (ho : o.op = .call { callee := .builtin .append, args := #[s, x], argTypes := #[137, 137] }) {base B : Nat} {W : World} {v y : Value} {l m : List Nat} (hown : w.ownsRow base 5 1 v l.length (l.map bv))
    (hy : Bts w y m) (hbw : Below B W w) (hB : B ≤ base) (hb : base ≤ w.heap.size) (hl : l.length + m.length ≤ 8192) (hs : a.eval s = v) (hx : a.eval x = y)
    (h : ∀ v' w', w'.ownsRow base 5 1 v' (l ++ m).length ((l ++ m).map bv) → Below B W w' → base ≤ w'.heap.size → w.grownBy w' v.ownBlock → wpList Tryz.prog ops Q rest (a.put o.dst v') w') :
    wpList Tryz.prog ops Q (o :: rest) a w := by
  refine wpl_append hgd s x _ ho base 5 _ 1 1 Tryz.underlying137 info_u8 rfl (by omega) (by omega) v _ _ hs hown _ _ _ hx hy (bv_one _) (by omega) hb ?_
  intro v' w' h1 h2 _
  refine h v' w' (by simpa using h1) (below_grown hbw hown h2 (by omega) hB) ?_ h2
  have := h2.size
  omega

theorem numb_any (x : Nat) (v : Value) (w : World) (hl : (bitsOf x).length ≤ 4096) (h : Bts w v (bitsOf x)) :
    Calls Tryz.prog 57 #[v] w fun e w' => e = .returned (.tuple #[.int .u64 ((x % 18446744073709551616 : Nat) : Int), .bool (decide (x < 18446744073709551616))]) ∧ w = w' := by
  refine (number_any (bitsOf x) v w hl (bin_bitsOf x) h).mono ?_
  rintro e w' ⟨rfl, rfl⟩
  rw [val_bitsOf]
  have e : decide (((bitsOf x).length : Int) ≤ 64) = decide (x < 18446744073709551616) := by
    rw [decide_eq_decide]
    have := length_bitsOf_iff x 64
    exact ⟨fun h => this.1 (by omega), fun h => by have := this.2 h; omega⟩
  rw [e]
  exact ⟨rfl, rfl⟩
theorem trimmed_any (l : List Nat) (v : Value) (w : World) (hl : l.length ≤ 4096) (hb : Bin l) (h : Bts w v l) :
    Calls Tryz.prog 71 #[v] w (SomeBts w (bitsOf (val l))) := trim_any l v w hl hb h
/-! ### Quotient and rest -/
theorem div_step (a by_ q r x n : Nat) (h : n = q * by_ + r) (hr : r < by_) (e : a = 2 * n + x) (hx : x < 2) :
    (by_ ≤ 2 * r + x → a = (2 * q + 1) * by_ + (2 * r + x - by_) ∧ 2 * r + x - by_ < by_) ∧ (2 * r + x < by_ → a = 2 * q * by_ + (2 * r + x)) := by
  have e1 : (2 * q + 1) * by_ = 2 * (q * by_) + by_ := by rw [Nat.add_mul, Nat.mul_assoc, Nat.one_mul]
  have e2 : 2 * q * by_ = 2 * (q * by_) := Nat.mul_assoc _ _ _
  constructor
  · intro h1; rw [e1]; omega
  · intro h1; rw [e2]; omega
theorem own_bits {w : World} {g base : Nat} {qs : List Nat} (h : Bk w g 5 (qs.map bv).toArray) (hb : base ≤ g) (hl : qs.length ≤ 4096) : w.ownsRow base 5 1 (.slice (some ⟨g, 0, none⟩) qs.length qs.length) qs.length (qs.map bv) := by
  have := Bk.own h (size := 1) (n := qs.length) (c := qs.length) hb (Nat.le_refl _) (by simp only [maxLen]; omega) (by simp)
  rw [List.take_of_length_le (by simp)] at this
  exact this
theorem own_one (w : World) (base b : Nat) (hb : base ≤ w.heap.size) : (w.alloc (.cells #[.int .u8 (b : Int)] 5)).ownsRow base 5 1 (.slice (some ⟨w.heap.size, 0, none⟩) 1 1) [b].length ([b].map bv) :=
  own_bits (qs := [b]) (Bk.new w _ _) hb (by simp)
theorem bits_set (qs : List Nat) (j : Nat) : ((qs.map bv).toArray.setIfInBounds j (.int .u8 1)) = ((qs.set j 1).map bv).toArray := by
  rw [List.setIfInBounds_toArray, List.map_set]; rfl
theorem madeBits (n : Nat) : madeCells #[Value.int .u8 0] n = ((List.replicate n 0).map bv).toArray := by
  apply Array.toList_inj.1
  rw [toList_madeCells_one]
  simp [bv]
theorem drop_set_succ (qs : List Nat) (j x : Nat) : (qs.set j x).drop (j + 1) = qs.drop (j + 1) := by rw [List.drop_set]; simp
theorem val_drop_set (qs : List Nat) (j : Nat) (h : j < qs.length) : val ((qs.set j 1).drop j) = 2 * val (qs.drop (j + 1)) + 1 := by
  rw [val_drop_succ, drop_set_succ]; simp [List.getD, h]
theorem bin_set {qs : List Nat} (h : Bin qs) (j : Nat) : Bin (qs.set j 1) := by
  intro b hb
  rcases List.mem_or_eq_of_mem_set hb with h1 | h1
  · exact h b h1
  · omega
theorem getD_set_lt (qs : List Nat) (i j x : Nat) (h : i < j) : (qs.set j x).getD i 0 = qs.getD i 0 := by
  simp [List.getD, List.getElem?_set, Nat.ne_of_gt h]
def TwoBts (w : World) (x y : Nat) (e : Ending) (w' : World) : Prop := ∃ q r, e = .returned (.tuple #[q, r]) ∧ Bts w' q (bitsOf x) ∧ Bts w' r (bitsOf y) ∧ Below w.heap.size w w'
theorem div_last (a b q r : Nat) (h : a = q * b + r) (hr : r < b) : q = a / b ∧ r = a % b := by
  subst h
  have hb : 0 < b := by omega
  rw [Nat.mul_comm, Nat.mul_add_div hb, Nat.div_eq_of_lt hr, Nat.mul_add_mod, Nat.mod_eq_of_lt hr]
  exact ⟨by omega, rfl⟩
theorem cmpN_ge {x y : Nat} (h : y ≤ x) : cmpN x y = if y < x then 1 else 0 := by unfold cmpN; split; · rfl
                                                                                  · rw [if_neg (by omega)]
theorem cmpN_lt {x y : Nat} (h : x < y) : cmpN x y = -1 := by unfold cmpN; rw [if_neg (by omega), if_pos h]
theorem length_lt_bits {r : Nat} {b : List Nat} (hb : Bin b) (h : r < val b) : (bitsOf r).length ≤ b.length := length_bitsOf_le (Nat.lt_trans h (val_lt hb))
theorem length_double {r x n : Nat} (h : (bitsOf r).length ≤ n) (hx : x < 2) : (bitsOf (2 * r + x)).length ≤ n + 1 := by
  have h1 := (length_bitsOf_iff r n).1 h
  exact length_bitsOf_le (by rw [Nat.pow_succ]; omega)
theorem bits_cell {w : World} {g j : Nat} {qs : List Nat} (h : Bk w g 5 (qs.map bv).toArray) (hj : j < qs.length) : ∃ old, w.cell? ⟨g, j, none⟩ = some old := ⟨_, by rw [h.cell j]; simp [hj]; rfl⟩
theorem cmp_ge_any (x : Nat) (b : List Nat) (u v : Value) (w : World) (hlx : (bitsOf x).length ≤ 2000) (hlb : b.length ≤ 2000) (hbb : Bin b) (hu : Bts w u (bitsOf x)) (hv : Bts w v b) :
    Calls Tryz.prog 56 #[u, v] w fun e w' => ∃ s : Int, e = .returned (.int .i64 s) ∧ (val b ≤ x → 0 ≤ s) ∧ (x < val b → s = -1) ∧ w = w' := by
  refine (cmp_any (bitsOf x) b u v w hlx hlb (bin_bitsOf x) hbb hu hv).mono ?_
  rintro e w' ⟨rfl, rfl⟩
  rw [val_bitsOf]
  refine ⟨_, rfl, fun h => ?_, cmpN_lt, rfl⟩
  rw [cmpN_ge h]
  split <;> omega

set_option maxHeartbeats 400000 in
theorem div_any (a b : List Nat) (u v : Value) (w : World) (hla : a.length ≤ 900) (hlb : b.length ≤ 900) (hba : Bin a) (hbb : Bin b) (ha : Bts w u a) (hb : Bts w v b) (hpos : 0 < val b) :
    Calls Tryz.prog 52 #[u, v] w (TwoBts w (val a / val b) (val a % val b)) := by
  obtain ⟨A, c, rfl, hc⟩ := ha.form
  have hmk := fun (W : World) => run_make_row' (P := Tryz.prog) 137 5 (.int .u8 0) 1 Tryz.underlying137 info_u8 rfl .i64 .i64 a.length (by omega) (by omega) W
  go_enter Tryz.func52, Tryz.ntmps52
  go_wp2_with fail
  go_loopw [7, 8] (fun rest i wr => ∃ (k : Nat) (qs : List Nat) (r : Nat), k ≤ a.length ∧ i = .int .i64 ((k : Int) - 1) ∧ Bk wr w.heap.size 5 (qs.map bv).toArray ∧ qs.length = a.length ∧ Bin qs ∧ (∀ j, j < k → qs.getD j 0 = 0) ∧
      wr.ownsRow (w.heap.size + 1) 5 1 rest (bitsOf r).length ((bitsOf r).map bv) ∧ Below w.heap.size w wr ∧ w.heap.size + 1 ≤ wr.heap.size ∧ val (a.drop k) = val (qs.drop k) * val b + r ∧ r < val b)
    (fun _ i _ => (intOf i + 1).toNat)
  case atStart =>
    refine ⟨a.length, List.replicate a.length 0, 0, Nat.le_refl _, rfl, ?_, by simp, ?_, ?_, ?_, ((Below.refl _ _).alloc (Nat.le_refl _) _).alloc (by simp) _, by simp, by rw [List.drop_length, List.drop_eq_nil_of_le (by simp)]; simp [val], hpos⟩
    · rw [madeBits]
      exact (Bk.new w _ _).alloc _
    · intro x hx; have := List.eq_of_mem_replicate hx; omega
    · intro j hj; simp [List.getD, hj]
    · rw [bitsOf_zero]
      have := own_empty (w.alloc (.cells (madeCells #[Value.int .u8 0] a.length) 5)) (w.heap.size + 1) (by simp)
      simpa using this
  case round =>
    obtain ⟨k, qs, r, hk, rfl, hq, hql, hqb, hq0, hown, hbw, hsz, hv, hr⟩ := hrel
    have HQ := Lib.hid hql
    have HV := Lib.hid hv
    have HZ := Lib.hid hq0
    clear hql hv hq0 hmk
    rcases k with _ | j
    · have e1 := div_last (val a) (val b) (val qs) r (by simpa using HV.out) hr
      go_wp2_with fail
      refine (trimmed_any qs _ wr (by have := HQ.out; omega) hqb (by have := Bts.of_own (own_bits hq (Nat.le_refl _) (by have := HQ.out; omega)); rw [HQ.out] at this; unfold Bts; rw [HQ.out]; unfold Bts at this; rw [HQ.out] at this; exact this)).mono ?_
      rintro e w4 ⟨v4, rfl, hv4, rfl⟩
      go_wp2_with fail
      go_ret2
      exact ⟨_, _, rfl, by rw [← e1.1]; exact hv4, by rw [← e1.2]; exact Bts.of_own hown, hbw⟩
    · obtain ⟨ad, rfl, hblk, hcell⟩ := (ha.below hbw).cellb (k := j) (by omega)
      have hx := hba.getD j
      have hlr := length_lt_bits hbb hr
      have e1 : ((j + 1 : Nat) : Int) - 1 = j := by omega
      have HR := Lib.hid (val_drop_succ a j)
      rw [e1]
      generalize a.getD j 0 = x at *
      have HD := Lib.hid (div_step _ (val b) _ r x _ HV.out hr HR.out hx)
      clear e1
      have ex : val (x :: bitsOf r) = 2 * r + x := by rw [val, val_bitsOf]; omega
      have hbx : Bin (x :: bitsOf r) := by
        intro y hy
        rcases List.mem_cons.1 hy with rfl | hy
        · exact hx
        · exact bin_bitsOf r y hy
      have HX := Lib.hid ex
      clear ex
      go_wp2_with (at_builtin; go_must (refine wpl_cat rfl (.tmp 24) (.tmp 25) rfl (own_one wr (w.heap.size + 1) x hsz) ((Bts.of_own hown).alloc _) (hbw.alloc (by omega) _) (by omega) (by simp; omega) (by simp; omega) rfl rfl ?_); intro v1 w1 hown1 hbw1 hsz1 hg1)
      have hq1 : Bk w1 w.heap.size 5 (qs.map bv).toArray := (hq.alloc _).grown hg1 (by simp [Value.ownBlock]; omega)
      refine (trim_own (x :: bitsOf r) _ w1 _ (by simp; omega) hbx hown1).mono ?_
      rintro e w2 ⟨v2, rfl, hown2, rfl⟩
      rw [HX.out] at hown2
      have hl2 : (bitsOf (2 * r + x)).length ≤ 1000 := by
        have := length_double hlr hx
        omega
      go_wp2_with fail
      refine (cmp_ge_any (2 * r + x) b _ _ w1 (by omega) (by omega) hbb (Bts.of_own hown2) (hb.below hbw1)).mono ?_
      rintro e w2 ⟨sg, rfl, hs1, hs2, rfl⟩
      have HS1 := Lib.hid hs1
      have HS2 := Lib.hid hs2
      clear hs1 hs2
      by_cases hge : val b ≤ 2 * r + x
      · have hs : 0 ≤ sg := HS1.out hge
        have HD1 := Lib.hid (HD.out.1 hge)
        go_wp2_with (go_at_call 72; refine (sub_any (bitsOf (2 * r + x)) b _ _ w1 (by omega) (by omega) (bin_bitsOf _) hbb (Bts.of_own hown2) (hb.below hbw1) (by rw [val_bitsOf]; exact hge)).mono ?_; rintro e w3 ⟨v3, rfl, hown3, hb3⟩; rw [val_bitsOf] at hown3; have hq3 := hq1.below' hb3; obtain ⟨old, hqc⟩ := bits_cell (j := j) hq3 (by have := HQ.out; omega); have hqf := hq3.frozen j)
        go_roundw
        case rel =>
          refine ⟨j, qs.set j 1, 2 * r + x - val b, by omega, rfl, ?_, by rw [List.length_set]; exact HQ.out, bin_set hqb j, fun i hi => ?_, ?_, (hbw1.trans (hb3.mono (by omega))).setCell (by simp) _, by simp [World.setCell]; have := hb3.size; omega, ?_, HD1.out.2⟩
          · rw [← bits_set]
            exact hq3.set j _
          · rw [getD_set_lt _ _ _ _ hi]
            exact HZ.out i (by omega)
          · exact ownsRow_setCell_below (own_mono hown3 (by omega)) (by simp) _
          · rw [val_drop_set _ _ (by have := HQ.out; omega)]
            exact HD1.out.1
        case measure => simp [intOf]
      · have hs : sg = -1 := HS2.out (by omega)
        subst hs
        have HD2 := Lib.hid (HD.out.2 (by omega))
        go_wp2_with fail
        go_roundw
        case rel => exact ⟨j, qs, 2 * r + x, by omega, rfl, hq1, HQ.out, hqb, fun i hi => HZ.out i (by omega), hown2, hbw1, hsz1, by have h0 := HZ.out j (by omega); rw [HD2.out, val_drop_succ qs j, h0]; rfl, by omega⟩
        case measure => simp [intOf]
end Go.Proofs.YtcbnmoghjhljbaaGreat
end
section
namespace Go.Proofs.YtcbnmoghjhljbaaGreat
open Go.RowKit Go.Proofs.Mem
set_option linter.unusedVariables false
theorem obs_of {w : World} {A : Option Addr} {n c m : Nat} (h : Mem.Ok Tryz.prog w (m + 7) 22 (Value.slice A n c).cells.toList) :
    ∃ xs : List Ob, xs.length = n ∧ n ≤ maxLen ∧ Sl w 47 (.slice A n c) n (xs.flatMap Ob.cells) ∧ ∀ x ∈ xs, x.Ok w := by
  have hco : Tryz.prog.cellsOf 56 = 47 := by kernel_rfl
  obtain ⟨v, m', xs, e1, hS, hm, hel⟩ := ok_slice Tryz.underlying22 h (by omega)
  rw [hco] at hS hel
  have e2 : v = .slice A n c := by simp [Value.cells] at e1; exact e1.symm
  subst e2
  obtain ⟨rfl, _, _, hl, _⟩ := hS.parts
  obtain ⟨l, h1, h2, h3⟩ := rows_of (s := 47) Ob.cells (fun x => x.Ok w) _ xs hl (fun i hi => by
    obtain ⟨o, e1, ho⟩ := obj_of (hel i hi)
    exact ⟨o, e1, ho⟩)
  exact ⟨l, h1, hm, by rw [← h2]; exact hS, h3⟩
end Go.Proofs.YtcbnmoghjhljbaaGreat
end
section
namespace Go.Proofs.YtcbnmoghjhljbaaGreat
open Go.RowKit
theorem at_alloc_ {P : Program} {ops : Array Oper} {Q : Exit → Act → World → Prop} {d t u ps af g} {rest : List Oper} {a : Act} {w : World}
    (h : wpList P ops Q (⟨d, .alloc t, u, ps, af, g⟩ :: rest) a w) : wpList P ops Q (⟨d, .alloc t, u, ps, af, g⟩ :: rest) a w := h
theorem at_store_ {P : Program} {ops : Array Oper} {Q : Exit → Act → World → Prop} {d t u x y ps af g} {rest : List Oper} {a : Act} {w : World}
    (h : wpList P ops Q (⟨d, .store t x y, u, ps, af, g⟩ :: rest) a w) : wpList P ops Q (⟨d, .store t x y, u, ps, af, g⟩ :: rest) a w := h
theorem at_load_ {P : Program} {ops : Array Oper} {Q : Exit → Act → World → Prop} {d t u x ps af g} {rest : List Oper} {a : Act} {w : World}
    (h : wpList P ops Q (⟨d, .load t x, u, ps, af, g⟩ :: rest) a w) : wpList P ops Q (⟨d, .load t x, u, ps, af, g⟩ :: rest) a w := h
end Go.Proofs.YtcbnmoghjhljbaaGreat
end
