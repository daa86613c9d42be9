/-
  The walk of trimtabref06.Object at one kind; The walk of trimtabref06.Object at an Hpa; The walk of trimtabref06.Same, of two objects of one kind whose bytes are the same; A region that draws its order, in a round of a range over a function, at the wide fence: one walk of the text's order serves every order; A region that draws its order, whose operations only read but for the last one, which waits for all the others: one walk in the text's order of all but the last, then that one; The store's Copy: another store, in blocks of its own, that holds the same; A range over a function whose iterator leans on what the body keeps (Qi), and whose body on what is known of that which is handed to it
-/
import Derived.Test.YtoobjfpkdlffpaaCPPss5
import Derived.Test.YtoobjfpkdlffpaaCPPss1
import Derived.Lib.QuietBelow
import Derived.OrdersIn
import Derived.RangeFuncCalls
import Derived.CallsIn
import Derived.TacticsIn
import Derived.Orders
import Derived.Test.YtoobjfpkdlffpaaCPPss4
import Derived.Shelf.SlMaps.Clone
import Derived.RangeFuncNested
import Derived.RangeFuncBound
import Derived.RangeFuncLeaves
section
namespace Go.Proofs.Ytoobjfpkdlffpaa
open Go.RowKit Go.Proofs.Mem
set_option linter.unusedVariables false
set_option linter.unusedSimpArgs false
set_option maxHeartbeats 4000000 in
set_option maxRecDepth 100000 in
theorem object_gr (o : Ob) (w : World) (hk : o.kind = 3) (ho : o.g.Ok w) (hv : wfi .u64 o.version) (hn : s255 o.name) (hs : grS o.g) :
    Calls Try.prog 32 #[.agg o.cells.toArray] w fun e w' => e = .returned (.string (objB o)) ∧ Below w.heap.size w w' := by
  obtain ⟨kind, name, version, ⟨w0, w1, w2, w3, w4, w5, w6⟩, ⟨p0, p1, p2, p3, p4, p5, p6, p7, p8, p9⟩, ⟨n0, n1, n2, n3, n4, n5, n6⟩, ⟨g0, g1, g2, g3, g4, g5, g6, g7⟩, ⟨h0, h1, h2, h3, h4, ⟨h5, h6, h7⟩, ⟨h8, h9, h10⟩, h11⟩⟩ := o
  simp only at hk hn hs
  subst hk
  obtain ⟨ver, hver, rfl⟩ := u64_nat hv
  clear hv
  unfold s255 at hn
  obtain ⟨og0, og1, og2, og3, og4, og5, og6, og7⟩ := ho
  obtain ⟨tg5, tg6⟩ := hs
  simp only at og0 og1 og2 og3 og4 og5 og6 og7 tg5 tg6
  obtain ⟨g5v, g5l⟩ := g5
  obtain ⟨Ag5, cg5, eg5, _⟩ := id og5.1
  have eg5 : g5v = .slice Ag5 g5l.length cg5 := eg5
  subst eg5
  simp only at og5 tg5
  have Cg5 : Hid (∀ w1, Below w.heap.size w w1 → Calls Try.prog 55 #[.slice Ag5 g5l.length cg5] w1 fun e w' => e = .returned (.string (labsB g5l)) ∧ Below w1.heap.size w1 w') := Lib.hid (fun w1 hb => labels_any ⟨_, g5l⟩ w1 (og5.below hb) tg5)
  clear og5
  obtain ⟨g6v, g6l⟩ := g6
  obtain ⟨Ag6, cg6, eg6, _⟩ := id og6.1
  have eg6 : g6v = .slice Ag6 g6l.length cg6 := eg6
  subst eg6
  simp only at og6 tg6
  have Cg6 : Hid (∀ w1, Below w.heap.size w w1 → Calls Try.prog 55 #[.slice Ag6 g6l.length cg6] w1 fun e w' => e = .returned (.string (labsB g6l)) ∧ Below w1.heap.size w1 w') := Lib.hid (fun w1 hb => labels_any ⟨_, g6l⟩ w1 (og6.below hb) tg6)
  clear og6
  obtain ⟨q, hq⟩ : ∃ q, q = objB ⟨3, name, ver, ⟨w0, w1, w2, w3, w4, w5, w6⟩, ⟨p0, p1, p2, p3, p4, p5, p6, p7, p8, p9⟩, ⟨n0, n1, n2, n3, n4, n5, n6⟩, ⟨g0, g1, g2, g3, g4, ⟨.slice Ag5 g5l.length cg5, g5l⟩, ⟨.slice Ag6 g6l.length cg6, g6l⟩, g7⟩, ⟨h0, h1, h2, h3, h4, ⟨h5, h6, h7⟩, ⟨h8, h9, h10⟩, h11⟩⟩ := ⟨_, rfl⟩
  rw [← hq]
  have HQ : Hid (q = grB (putB 3 1 ++ textB name ++ putB ver 8) ⟨g0, g1, g2, g3, g4, ⟨.slice Ag5 g5l.length cg5, g5l⟩, ⟨.slice Ag6 g6l.length cg6, g6l⟩, g7⟩) := Lib.hid (by rw [hq]; rfl)
  clear hq
  simp only [Ob.cells, Wl.cells, Pd.cells, Nd.cells, Gr.cells, Hp.cells, List.cons_append, List.nil_append]
  have qh0 := putB_size 3 1
  have qh1 := textB_size name
  have qh2 := putB_size ver 8
  obtain ⟨sh1, eh1, zh1, kh1⟩ := cat_of (putB 3 1) (textB name) (by omega)
  obtain ⟨sh2, eh2, zh2, kh2⟩ := cat_of sh1 (putB ver 8) (by omega)
  have HSh : Hid (putB 3 1 ++ textB name ++ putB ver 8 = sh2) := Lib.hid (by show putB 3 1 ++ textB name ++ putB ver 8 = _; rw [eh2, eh1])
  have zlh : sh2.size ≤ 300 := by omega
  clear eh1 zh1 eh2 zh2 qh0 qh1 qh2
  have qb0 := putB_size (u64 g0) 8
  have qb1 := putB_size (u64 g1) 8
  have qb2 := putB_size (u64 g2) 8
  have qb3 := resB_size g3 g4
  have qb4 := labsB_le g5l (by assumption)
  have qb5 := labsB_le g6l (by assumption)
  have qb6 := putB_size (u64 g7) 8
  obtain ⟨sb0, eb0, zb0, kb0⟩ := cat_of sh2 (putB (u64 g0) 8) (by omega)
  obtain ⟨sb1, eb1, zb1, kb1⟩ := cat_of sb0 (putB (u64 g1) 8) (by omega)
  obtain ⟨sb2, eb2, zb2, kb2⟩ := cat_of sb1 (putB (u64 g2) 8) (by omega)
  obtain ⟨sb3, eb3, zb3, kb3⟩ := cat_of sb2 (resB g3 g4) (by omega)
  obtain ⟨sb4, eb4, zb4, kb4⟩ := cat_of sb3 (labsB g5l) (by omega)
  obtain ⟨sb5, eb5, zb5, kb5⟩ := cat_of sb4 (labsB g6l) (by omega)
  obtain ⟨sb6, eb6, zb6, kb6⟩ := cat_of sb5 (putB (u64 g7) 8) (by omega)
  have HSb : Hid (grB sh2 ⟨g0, g1, g2, g3, g4, ⟨.slice Ag5 g5l.length cg5, g5l⟩, ⟨.slice Ag6 g6l.length cg6, g6l⟩, g7⟩ = sb6) := Lib.hid (by show sh2 ++ putB (u64 g0) 8 ++ putB (u64 g1) 8 ++ putB (u64 g2) 8 ++ resB g3 g4 ++ labsB g5l ++ labsB g6l ++ putB (u64 g7) 8 = _; rw [eb6, eb5, eb4, eb3, eb2, eb1, eb0])
  have zlb : sb6.size ≤ 1000000 := by omega
  clear eb0 zb0 eb1 zb1 eb2 zb2 eb3 zb3 eb4 zb4 eb5 zb5 eb6 zb6 qb0 qb1 qb2 qb3 qb4 qb5 qb6
  have HR : Hid (q = sb6) := Lib.hid (by rw [HQ.out, HSh.out, HSb.out])
  clear HQ HSh HSb zlh zlb
  have hwr : IntKind.u64.wrap (3 : Int) = 3 := by decide
  have HP1 : Hid (∀ w1, Calls Try.prog 51 #[.int .u64 3, .int .i64 1] w1 fun e w' => e = .returned (.string (putB 3 1)) ∧ Below w1.heap.size w1 w') := Lib.hid (fun w1 => put6_any 3 1 w1 (by decide) (by decide))
  have HP8 : Hid (∀ w1, Calls Try.prog 51 #[.int .u64 ver, .int .i64 8] w1 fun e w' => e = .returned (.string (putB ver 8)) ∧ Below w1.heap.size w1 w') := Lib.hid (fun w1 => put6_any ver 8 w1 hver (by decide))
  clear hver
  go_enter Try.func32, Try.ntmps32
  go_wp2_with fail
  obtain ⟨Wb, hWb⟩ : ∃ Wb, Wb = w.alloc (.cells #[.int .i64 3, .string name, .int .u64 ver, .int .i64 w0, .int .i64 w1, .int .i64 w2, w3.v, w4.v, w5.v, .int .i64 w6, .string p0, .string p1, .int .i64 p2, .int .i64 p3, .int .i64 p4, .int .i64 p5, p6.v, p7.v, p8.v, .int .i64 p9, .string n0, .int .i64 n1, .int .i64 n2, n3.v, n4.v, .int .i64 n5, .bool n6, .int .i64 g0, .int .i64 g1, .int .i64 g2, .int .i64 g3, .int .i64 g4, .slice Ag5 g5l.length cg5, .slice Ag6 g6l.length cg6, .int .i64 g7, .string h0, .int .i64 h1, .int .i64 h2, h3.v, .int .i64 h4, .int .i64 h5, .int .i64 h6, h7.v, .int .i64 h8, .int .i64 h9, h10.v, h11.v] 57) := ⟨_, rfl⟩
  have hkb := Bk.new w 57 #[.int .i64 3, .string name, .int .u64 ver, .int .i64 w0, .int .i64 w1, .int .i64 w2, w3.v, w4.v, w5.v, .int .i64 w6, .string p0, .string p1, .int .i64 p2, .int .i64 p3, .int .i64 p4, .int .i64 p5, p6.v, p7.v, p8.v, .int .i64 p9, .string n0, .int .i64 n1, .int .i64 n2, n3.v, n4.v, .int .i64 n5, .bool n6, .int .i64 g0, .int .i64 g1, .int .i64 g2, .int .i64 g3, .int .i64 g4, .slice Ag5 g5l.length cg5, .slice Ag6 g6l.length cg6, .int .i64 g7, .string h0, .int .i64 h1, .int .i64 h2, h3.v, .int .i64 h4, .int .i64 h5, .int .i64 h6, h7.v, .int .i64 h8, .int .i64 h9, h10.v, h11.v]
  have hBb : Below w.heap.size w Wb := by rw [hWb]; exact below_al _ _
  rw [← hWb] at hkb ⊢
  have bc0 : Wb.cell? ⟨w.heap.size, 0, none⟩ = some (.int .i64 3) := hkb.cell 0
  have bc1 : Wb.cell? ⟨w.heap.size, 1, none⟩ = some (.string name) := hkb.cell 1
  have bc2 : Wb.cell? ⟨w.heap.size, 2, none⟩ = some (.int .u64 ver) := hkb.cell 2
  have bc27 : Wb.cell? ⟨w.heap.size, 27, none⟩ = some (.int .i64 g0) := hkb.cell 27
  have bc28 : Wb.cell? ⟨w.heap.size, 28, none⟩ = some (.int .i64 g1) := hkb.cell 28
  have bc29 : Wb.cell? ⟨w.heap.size, 29, none⟩ = some (.int .i64 g2) := hkb.cell 29
  have bc30 : Wb.cell? ⟨w.heap.size, 30, none⟩ = some (.int .i64 g3) := hkb.cell 30
  have bc31 : Wb.cell? ⟨w.heap.size, 31, none⟩ = some (.int .i64 g4) := hkb.cell 31
  have bc32 : Wb.cell? ⟨w.heap.size, 32, none⟩ = some (.slice Ag5 g5l.length cg5) := hkb.cell 32
  have bc33 : Wb.cell? ⟨w.heap.size, 33, none⟩ = some (.slice Ag6 g6l.length cg6) := hkb.cell 33
  have bc34 : Wb.cell? ⟨w.heap.size, 34, none⟩ = some (.int .i64 g7) := hkb.cell 34
  clear hWb hkb
  go_region_held3 (fun w' => w'.cell? ⟨w.heap.size, 0, none⟩ = some (.int .i64 3) ∧ w'.cell? ⟨w.heap.size, 1, none⟩ = some (.string name) ∧ w'.cell? ⟨w.heap.size, 2, none⟩ = some (.int .u64 ver) ∧ Below Wb.heap.size Wb w')
    (first | (have hB9 := below_tr (by assumption : _ ∧ _ ∧ _ ∧ Below Wb.heap.size Wb _).2.2.2 hb'; exact ⟨keep_cell hB9 bc0, keep_cell hB9 bc1, keep_cell hB9 bc2, hB9⟩) | (exact ⟨bc0, bc1, bc2, (Below.refl _ _).drew⟩)) (first
    | (go_at_call 51; ((with_reducible refine (HP1.out _).mono ?_); rintro e w' ⟨rfl, hb'⟩))
    | (go_at_call 52; refine (text_any _ _ (by assumption)).mono ?_; rintro e w' ⟨rfl, hb'⟩)
    | (go_at_call 51; ((with_reducible refine (HP8.out _).mono ?_); rintro e w' ⟨rfl, hb'⟩)))
  have hBz := (by assumption : _ ∧ _ ∧ _ ∧ Below Wb.heap.size Wb _).2.2.2
  obtain ⟨W1, hW1⟩ : ∃ W1, W1 = w' := ⟨_, rfl⟩
  subst hW1
  have hB1 := hBb.trans (hBz.mono hBb.size)
  have d0 := keep_cell hBz bc0
  have d27 := keep_cell hBz bc27
  have d28 := keep_cell hBz bc28
  have d29 := keep_cell hBz bc29
  have d30 := keep_cell hBz bc30
  have d31 := keep_cell hBz bc31
  have d32 := keep_cell hBz bc32
  have d33 := keep_cell hBz bc33
  have d34 := keep_cell hBz bc34
  clear hwr hBz hBb HP1 HP8 bc0 bc1 bc2 bc27 bc28 bc29 bc30 bc31 bc32 bc33 bc34
  go_wp2_with fail
  obtain ⟨W0, hW0⟩ : ∃ W0, W0 = W1.alloc (.cells #[.int .i64 g0, .int .i64 g1, .int .i64 g2, .int .i64 g3, .int .i64 g4, .slice Ag5 g5l.length cg5, .slice Ag6 g6l.length cg6, .int .i64 g7] 48) := ⟨_, rfl⟩
  have hk0 := Bk.new W1 48 #[.int .i64 g0, .int .i64 g1, .int .i64 g2, .int .i64 g3, .int .i64 g4, .slice Ag5 g5l.length cg5, .slice Ag6 g6l.length cg6, .int .i64 g7]
  have hA0 : Below W1.heap.size W1 W0 := by rw [hW0]; exact below_al _ _
  have hB0 : Below w.heap.size w W0 := hB1.trans (hA0.mono hB1.size)
  rw [← hW0] at hk0 ⊢
  have c0 : W0.cell? ⟨W1.heap.size, 0, none⟩ = some (.int .i64 g0) := hk0.cell 0
  have c1 : W0.cell? ⟨W1.heap.size, 1, none⟩ = some (.int .i64 g1) := hk0.cell 1
  have c2 : W0.cell? ⟨W1.heap.size, 2, none⟩ = some (.int .i64 g2) := hk0.cell 2
  have c3 : W0.cell? ⟨W1.heap.size, 3, none⟩ = some (.int .i64 g3) := hk0.cell 3
  have c4 : W0.cell? ⟨W1.heap.size, 4, none⟩ = some (.int .i64 g4) := hk0.cell 4
  have c5 : W0.cell? ⟨W1.heap.size, 5, none⟩ = some (.slice Ag5 g5l.length cg5) := hk0.cell 5
  have c6 : W0.cell? ⟨W1.heap.size, 6, none⟩ = some (.slice Ag6 g6l.length cg6) := hk0.cell 6
  have c7 : W0.cell? ⟨W1.heap.size, 7, none⟩ = some (.int .i64 g7) := hk0.cell 7
  clear hW0 hk0 hA0 d0 d27 d28 d29 d30 d31 d32 d33 d34
  go_region_held3 (fun w' => w'.cell? ⟨W1.heap.size, 0, none⟩ = some (.int .i64 g0) ∧ w'.cell? ⟨W1.heap.size, 1, none⟩ = some (.int .i64 g1) ∧ w'.cell? ⟨W1.heap.size, 2, none⟩ = some (.int .i64 g2) ∧ w'.cell? ⟨W1.heap.size, 3, none⟩ = some (.int .i64 g3) ∧ w'.cell? ⟨W1.heap.size, 4, none⟩ = some (.int .i64 g4) ∧ w'.cell? ⟨W1.heap.size, 5, none⟩ = some (.slice Ag5 g5l.length cg5) ∧ w'.cell? ⟨W1.heap.size, 6, none⟩ = some (.slice Ag6 g6l.length cg6) ∧ w'.cell? ⟨W1.heap.size, 7, none⟩ = some (.int .i64 g7) ∧ Below W0.heap.size W0 w')
    (first | (have hB9 := below_tr (by assumption : _ ∧ _ ∧ _ ∧ _ ∧ _ ∧ _ ∧ _ ∧ _ ∧ Below W0.heap.size W0 _).2.2.2.2.2.2.2.2 hb'; exact ⟨keep_cell hB9 c0, keep_cell hB9 c1, keep_cell hB9 c2, keep_cell hB9 c3, keep_cell hB9 c4, keep_cell hB9 c5, keep_cell hB9 c6, keep_cell hB9 c7, hB9⟩) | (exact ⟨c0, c1, c2, c3, c4, c5, c6, c7, (Below.refl _ _).drew⟩)) (first
    | (go_at_call 53; refine (int_any _ _ (by assumption)).mono ?_; rintro e w' ⟨rfl, hb'⟩)
    | (go_at_call 54; refine (resources_any _ _ _ (by assumption) (by assumption)).mono ?_; rintro e w' ⟨rfl, hb'⟩)
    | (go_at_call 55; ((with_reducible refine (Cg5.out _ (below_tr hB0 (by assumption : _ ∧ _ ∧ _ ∧ _ ∧ _ ∧ _ ∧ _ ∧ _ ∧ Below W0.heap.size W0 _).2.2.2.2.2.2.2.2)).mono ?_); rintro e w' ⟨rfl, hb'⟩))
    | (go_at_call 55; ((with_reducible refine (Cg6.out _ (below_tr hB0 (by assumption : _ ∧ _ ∧ _ ∧ _ ∧ _ ∧ _ ∧ _ ∧ _ ∧ Below W0.heap.size W0 _).2.2.2.2.2.2.2.2)).mono ?_); rintro e w' ⟨rfl, hb'⟩)))
  have hBy := (by assumption : _ ∧ _ ∧ _ ∧ _ ∧ _ ∧ _ ∧ _ ∧ _ ∧ Below W0.heap.size W0 _).2.2.2.2.2.2.2.2
  go_wp2_with fail
  go_ret
  exact ⟨by rw [HR.out]; rfl, hB0.trans (hBy.mono hB0.size)⟩
end Go.Proofs.Ytoobjfpkdlffpaa
end
section
namespace Go.Proofs.Ytoobjfpkdlffpaa
open Go.RowKit Go.Proofs.Mem
set_option linter.unusedVariables false
set_option linter.unusedSimpArgs false
set_option maxHeartbeats 8000000 in
set_option maxRecDepth 100000 in
theorem object_hp (o : Ob) (w : World) (hk : o.kind = 4) (ho : o.h.Ok w) (hv : wfi .u64 o.version) (hn : s255 o.name) (hs : HpS o.h) :
    Calls Try.prog 32 #[.agg o.cells.toArray] w fun e w' => e = .returned (.string (objB o)) ∧ Below w.heap.size w w' := by
  obtain ⟨kind, name, version, ⟨w0, w1, w2, w3, w4, w5, w6⟩, ⟨p0, p1, p2, p3, p4, p5, p6, p7, p8, p9⟩, ⟨n0, n1, n2, n3, n4, n5, n6⟩, ⟨g0, g1, g2, g3, g4, g5, g6, g7⟩, ⟨h0, h1, h2, h3, h4, ⟨h5, h6, h7⟩, ⟨h8, h9, h10⟩, h11⟩⟩ := o
  simp only at hk hn hs
  subst hk
  obtain ⟨ver, hver, rfl⟩ := u64_nat hv
  clear hv
  unfold s255 at hn
  obtain ⟨_, oh1, oh2, oh3, oh4, ou, od, oh11⟩ := ho
  obtain ⟨th0, th3, tm3, tu, td, th11⟩ := hs
  simp only at oh1 oh2 oh3 oh4 ou od oh11 th0 th3 tm3 tu td th11
  unfold s255 at th0
  obtain ⟨h3v, h3l⟩ := h3
  obtain ⟨Ah3, ch3, eh3, _⟩ := id oh3.1
  have eh3 : h3v = .slice Ah3 h3l.length ch3 := eh3
  subst eh3
  simp only at oh3 th3
  obtain ⟨h11v, h11l⟩ := h11
  obtain ⟨Ah11, ch11, eh11, _⟩ := id oh11.1
  have eh11 : h11v = .slice Ah11 h11l.length ch11 := eh11
  subst eh11
  simp only at oh11 th11
  simp only at tm3
  obtain ⟨h7v, h7l⟩ := h7
  obtain ⟨Ah7, ch7, eh7, _⟩ := id ou.policies.1
  have eh7 : h7v = .slice Ah7 h7l.length ch7 := eh7
  subst eh7
  obtain ⟨h10v, h10l⟩ := h10
  obtain ⟨Ah10, ch10, eh10, _⟩ := id od.policies.1
  have eh10 : h10v = .slice Ah10 h10l.length ch10 := eh10
  subst eh10
  obtain ⟨hl3, _, hwf3⟩ := oh3
  obtain ⟨hl11, _, hwf11⟩ := oh11
  simp only at hl3 hwf3 hl11 hwf11
  have ok3 : True ∧ ∀ x ∈ h3l, x.Wf ∧ metSx x := ⟨trivial, fun x hx => ⟨hwf3 x hx, tm3 x hx⟩⟩
  have ok11 : True ∧ ∀ x ∈ h11l, x.Wf ∧ doneSx x := ⟨trivial, fun x hx => ⟨hwf11 x hx, trivial⟩⟩
  clear hwf3 hwf11 tm3
  obtain ⟨ub, hub⟩ : ∃ s, s = bhB ⟨h5, h6, ⟨.slice Ah7 h7l.length ch7, h7l⟩⟩ := ⟨_, rfl⟩
  obtain ⟨db, hdb⟩ : ∃ s, s = bhB ⟨h8, h9, ⟨.slice Ah10 h10l.length ch10, h10l⟩⟩ := ⟨_, rfl⟩
  have zu : ub.size ≤ 5000 := by rw [hub]; exact bhB_le _ tu
  have zd : db.size ≤ 5000 := by rw [hdb]; exact bhB_le _ td
  have Cu : Hid (∀ w1, Below w.heap.size w w1 → Calls Try.prog 58 #[.agg #[.int .i64 h5, .int .i64 h6, .slice Ah7 h7l.length ch7]] w1 fun e w' => e = .returned (.string ub) ∧ Below w1.heap.size w1 w') := Lib.hid (fun w1 hb => by rw [hub]; exact behavior_any ⟨h5, h6, ⟨.slice Ah7 h7l.length ch7, h7l⟩⟩ w1 (ou.below hb) tu)
  have Cd : Hid (∀ w1, Below w.heap.size w w1 → Calls Try.prog 58 #[.agg #[.int .i64 h8, .int .i64 h9, .slice Ah10 h10l.length ch10]] w1 fun e w' => e = .returned (.string db) ∧ Below w1.heap.size w1 w') := Lib.hid (fun w1 hb => by rw [hdb]; exact behavior_any ⟨h8, h9, ⟨.slice Ah10 h10l.length ch10, h10l⟩⟩ w1 (od.below hb) td)
  clear ou od tu td
  obtain ⟨q, hq⟩ : ∃ q, q = objB ⟨4, name, ver, ⟨w0, w1, w2, w3, w4, w5, w6⟩, ⟨p0, p1, p2, p3, p4, p5, p6, p7, p8, p9⟩, ⟨n0, n1, n2, n3, n4, n5, n6⟩, ⟨g0, g1, g2, g3, g4, g5, g6, g7⟩, ⟨h0, h1, h2, ⟨.slice Ah3 h3l.length ch3, h3l⟩, h4, ⟨h5, h6, ⟨.slice Ah7 h7l.length ch7, h7l⟩⟩, ⟨h8, h9, ⟨.slice Ah10 h10l.length ch10, h10l⟩⟩, ⟨.slice Ah11 h11l.length ch11, h11l⟩⟩⟩ := ⟨_, rfl⟩
  rw [← hq]
  have HQ : Hid (q = doneF (metF (putB 4 1 ++ textB name ++ putB ver 8 ++ textB h0 ++ putB (u64 h1) 8 ++ putB (u64 h2) 8 ++ putB h3l.length 1) h3l ++ putB (u64 h4) 8 ++ ub ++ db ++ putB h11l.length 1) h11l) := Lib.hid (by rw [hq, hub, hdb]; rfl)
  clear hq hub hdb
  simp only [Ob.cells, Wl.cells, Pd.cells, Nd.cells, Gr.cells, Hp.cells, List.cons_append, List.nil_append]
  have qh0 := putB_size 4 1
  have qh1 := textB_size name
  have qh2 := putB_size ver 8
  have qh3 := textB_size h0
  have qh4 := putB_size (u64 h1) 8
  have qh5 := putB_size (u64 h2) 8
  have qh6 := putB_size h3l.length 1
  obtain ⟨sh1, eh1, zh1, kh1⟩ := cat_of (putB 4 1) (textB name) (by omega)
  obtain ⟨sh2, eh2, zh2, kh2⟩ := cat_of sh1 (putB ver 8) (by omega)
  obtain ⟨sh3, eh3, zh3, kh3⟩ := cat_of sh2 (textB h0) (by omega)
  obtain ⟨sh4, eh4, zh4, kh4⟩ := cat_of sh3 (putB (u64 h1) 8) (by omega)
  obtain ⟨sh5, eh5, zh5, kh5⟩ := cat_of sh4 (putB (u64 h2) 8) (by omega)
  obtain ⟨sh6, eh6, zh6, kh6⟩ := cat_of sh5 (putB h3l.length 1) (by omega)
  have HSh : Hid (putB 4 1 ++ textB name ++ putB ver 8 ++ textB h0 ++ putB (u64 h1) 8 ++ putB (u64 h2) 8 ++ putB h3l.length 1 = sh6) := Lib.hid (by show putB 4 1 ++ textB name ++ putB ver 8 ++ textB h0 ++ putB (u64 h1) 8 ++ putB (u64 h2) 8 ++ putB h3l.length 1 = _; rw [eh6, eh5, eh4, eh3, eh2, eh1])
  have zlh : sh6.size ≤ 600 := by omega
  clear eh1 zh1 eh2 zh2 eh3 zh3 eh4 zh4 eh5 zh5 eh6 zh6 qh0 qh1 qh2 qh3 qh4 qh5 qh6
  have HQ2 : Hid (q = doneF (metF sh6 h3l ++ putB (u64 h4) 8 ++ ub ++ db ++ putB h11l.length 1) h11l) := Lib.hid (by rw [HQ.out, HSh.out])
  clear HQ HSh
  have hms : (metF sh6 h3l).size ≤ 100000 := by
    have := metF_size sh6 h3l (fun x hx => (ok3.2 x hx).2)
    omega
  obtain ⟨mb, hmb⟩ : ∃ s, s = metF sh6 h3l := ⟨_, rfl⟩
  rw [← hmb] at HQ2 hms
  have qb0 := putB_size (u64 h4) 8
  have qb1 := zu
  have qb2 := zd
  have qb3 := putB_size h11l.length 1
  obtain ⟨sb0, eb0, zb0, kb0⟩ := cat_of mb (putB (u64 h4) 8) (by omega)
  obtain ⟨sb1, eb1, zb1, kb1⟩ := cat_of sb0 (ub) (by omega)
  obtain ⟨sb2, eb2, zb2, kb2⟩ := cat_of sb1 (db) (by omega)
  obtain ⟨sb3, eb3, zb3, kb3⟩ := cat_of sb2 (putB h11l.length 1) (by omega)
  have HSb : Hid (mb ++ putB (u64 h4) 8 ++ ub ++ db ++ putB h11l.length 1 = sb3) := Lib.hid (by show mb ++ putB (u64 h4) 8 ++ ub ++ db ++ putB h11l.length 1 = _; rw [eb3, eb2, eb1, eb0])
  have zlb : sb3.size ≤ 200000 := by omega
  clear eb0 zb0 eb1 zb1 eb2 zb2 eb3 zb3 qb0 qb1 qb2 qb3
  have HR : Hid (q = doneF sb3 h11l) := Lib.hid (by rw [HQ2.out, HSb.out])
  have HMB := Lib.hid hmb
  clear HQ2 HSb hmb
  have hwr : IntKind.u64.wrap (4 : Int) = 4 := by decide
  have HP1 : Hid (∀ w1, Calls Try.prog 51 #[.int .u64 4, .int .i64 1] w1 fun e w' => e = .returned (.string (putB 4 1)) ∧ Below w1.heap.size w1 w') := Lib.hid (fun w1 => put6_any 4 1 w1 (by decide) (by decide))
  have HP8 : Hid (∀ w1, Calls Try.prog 51 #[.int .u64 ver, .int .i64 8] w1 fun e w' => e = .returned (.string (putB ver 8)) ∧ Below w1.heap.size w1 w') := Lib.hid (fun w1 => put6_any ver 8 w1 hver (by decide))
  clear hver
  go_enter Try.func32, Try.ntmps32
  go_wp2_with fail
  obtain ⟨Wb, hWb⟩ : ∃ Wb, Wb = w.alloc (.cells #[.int .i64 4, .string name, .int .u64 ver, .int .i64 w0, .int .i64 w1, .int .i64 w2, w3.v, w4.v, w5.v, .int .i64 w6, .string p0, .string p1, .int .i64 p2, .int .i64 p3, .int .i64 p4, .int .i64 p5, p6.v, p7.v, p8.v, .int .i64 p9, .string n0, .int .i64 n1, .int .i64 n2, n3.v, n4.v, .int .i64 n5, .bool n6, .int .i64 g0, .int .i64 g1, .int .i64 g2, .int .i64 g3, .int .i64 g4, g5.v, g6.v, .int .i64 g7, .string h0, .int .i64 h1, .int .i64 h2, .slice Ah3 h3l.length ch3, .int .i64 h4, .int .i64 h5, .int .i64 h6, .slice Ah7 h7l.length ch7, .int .i64 h8, .int .i64 h9, .slice Ah10 h10l.length ch10, .slice Ah11 h11l.length ch11] 57) := ⟨_, rfl⟩
  have hkb := Bk.new w 57 #[.int .i64 4, .string name, .int .u64 ver, .int .i64 w0, .int .i64 w1, .int .i64 w2, w3.v, w4.v, w5.v, .int .i64 w6, .string p0, .string p1, .int .i64 p2, .int .i64 p3, .int .i64 p4, .int .i64 p5, p6.v, p7.v, p8.v, .int .i64 p9, .string n0, .int .i64 n1, .int .i64 n2, n3.v, n4.v, .int .i64 n5, .bool n6, .int .i64 g0, .int .i64 g1, .int .i64 g2, .int .i64 g3, .int .i64 g4, g5.v, g6.v, .int .i64 g7, .string h0, .int .i64 h1, .int .i64 h2, .slice Ah3 h3l.length ch3, .int .i64 h4, .int .i64 h5, .int .i64 h6, .slice Ah7 h7l.length ch7, .int .i64 h8, .int .i64 h9, .slice Ah10 h10l.length ch10, .slice Ah11 h11l.length ch11]
  have hBb : Below w.heap.size w Wb := by rw [hWb]; exact below_al _ _
  rw [← hWb] at hkb ⊢
  have bc0 : Wb.cell? ⟨w.heap.size, 0, none⟩ = some (.int .i64 4) := hkb.cell 0
  have bc1 : Wb.cell? ⟨w.heap.size, 1, none⟩ = some (.string name) := hkb.cell 1
  have bc2 : Wb.cell? ⟨w.heap.size, 2, none⟩ = some (.int .u64 ver) := hkb.cell 2
  have bc35 : Wb.cell? ⟨w.heap.size, 35, none⟩ = some (.string h0) := hkb.cell 35
  have bc36 : Wb.cell? ⟨w.heap.size, 36, none⟩ = some (.int .i64 h1) := hkb.cell 36
  have bc37 : Wb.cell? ⟨w.heap.size, 37, none⟩ = some (.int .i64 h2) := hkb.cell 37
  have bc38 : Wb.cell? ⟨w.heap.size, 38, none⟩ = some (.slice Ah3 h3l.length ch3) := hkb.cell 38
  have bc39 : Wb.cell? ⟨w.heap.size, 39, none⟩ = some (.int .i64 h4) := hkb.cell 39
  have bc40 : Wb.cell? ⟨w.heap.size, 40, none⟩ = some (.int .i64 h5) := hkb.cell 40
  have bc41 : Wb.cell? ⟨w.heap.size, 41, none⟩ = some (.int .i64 h6) := hkb.cell 41
  have bc42 : Wb.cell? ⟨w.heap.size, 42, none⟩ = some (.slice Ah7 h7l.length ch7) := hkb.cell 42
  have bc43 : Wb.cell? ⟨w.heap.size, 43, none⟩ = some (.int .i64 h8) := hkb.cell 43
  have bc44 : Wb.cell? ⟨w.heap.size, 44, none⟩ = some (.int .i64 h9) := hkb.cell 44
  have bc45 : Wb.cell? ⟨w.heap.size, 45, none⟩ = some (.slice Ah10 h10l.length ch10) := hkb.cell 45
  have bc46 : Wb.cell? ⟨w.heap.size, 46, none⟩ = some (.slice Ah11 h11l.length ch11) := hkb.cell 46
  clear hWb hkb
  go_region_held3 (fun w' => w'.cell? ⟨w.heap.size, 0, none⟩ = some (.int .i64 4) ∧ w'.cell? ⟨w.heap.size, 1, none⟩ = some (.string name) ∧ w'.cell? ⟨w.heap.size, 2, none⟩ = some (.int .u64 ver) ∧ Below Wb.heap.size Wb w')
    (first | (have hB9 := below_tr (by assumption : _ ∧ _ ∧ _ ∧ Below Wb.heap.size Wb _).2.2.2 hb'; exact ⟨keep_cell hB9 bc0, keep_cell hB9 bc1, keep_cell hB9 bc2, hB9⟩) | (exact ⟨bc0, bc1, bc2, (Below.refl _ _).drew⟩)) (first
    | (go_at_call 51; ((with_reducible refine (HP1.out _).mono ?_); rintro e w' ⟨rfl, hb'⟩))
    | (go_at_call 52; refine (text_any _ _ (by assumption)).mono ?_; rintro e w' ⟨rfl, hb'⟩)
    | (go_at_call 51; ((with_reducible refine (HP8.out _).mono ?_); rintro e w' ⟨rfl, hb'⟩)))
  have hBz := (by assumption : _ ∧ _ ∧ _ ∧ Below Wb.heap.size Wb _).2.2.2
  obtain ⟨W1, hW1⟩ : ∃ W1, W1 = w' := ⟨_, rfl⟩
  subst hW1
  have hB1 := hBb.trans (hBz.mono hBb.size)
  have d0 := keep_cell hBz bc0
  have d35 := keep_cell hBz bc35
  have d36 := keep_cell hBz bc36
  have d37 := keep_cell hBz bc37
  have d38 := keep_cell hBz bc38
  have d39 := keep_cell hBz bc39
  have d40 := keep_cell hBz bc40
  have d41 := keep_cell hBz bc41
  have d42 := keep_cell hBz bc42
  have d43 := keep_cell hBz bc43
  have d44 := keep_cell hBz bc44
  have d45 := keep_cell hBz bc45
  have d46 := keep_cell hBz bc46
  clear hwr hBz hBb HP1 HP8 bc0 bc1 bc2 bc35 bc36 bc37 bc38 bc39 bc40 bc41 bc42 bc43 bc44 bc45 bc46
  go_wp2_with fail
  obtain ⟨W0, hW0⟩ : ∃ W0, W0 = W1.alloc (.cells #[.string h0, .int .i64 h1, .int .i64 h2, .slice Ah3 h3l.length ch3, .int .i64 h4, .int .i64 h5, .int .i64 h6, .slice Ah7 h7l.length ch7, .int .i64 h8, .int .i64 h9, .slice Ah10 h10l.length ch10, .slice Ah11 h11l.length ch11] 55) := ⟨_, rfl⟩
  have hk0 := Bk.new W1 55 #[.string h0, .int .i64 h1, .int .i64 h2, .slice Ah3 h3l.length ch3, .int .i64 h4, .int .i64 h5, .int .i64 h6, .slice Ah7 h7l.length ch7, .int .i64 h8, .int .i64 h9, .slice Ah10 h10l.length ch10, .slice Ah11 h11l.length ch11]
  have hA0 : Below W1.heap.size W1 W0 := by rw [hW0]; exact below_al _ _
  have hB0 : Below w.heap.size w W0 := hB1.trans (hA0.mono hB1.size)
  rw [← hW0] at hk0 ⊢
  have c0 : W0.cell? ⟨W1.heap.size, 0, none⟩ = some (.string h0) := hk0.cell 0
  have c1 : W0.cell? ⟨W1.heap.size, 1, none⟩ = some (.int .i64 h1) := hk0.cell 1
  have c2 : W0.cell? ⟨W1.heap.size, 2, none⟩ = some (.int .i64 h2) := hk0.cell 2
  have c3 : W0.cell? ⟨W1.heap.size, 3, none⟩ = some (.slice Ah3 h3l.length ch3) := hk0.cell 3
  have c4 : W0.cell? ⟨W1.heap.size, 4, none⟩ = some (.int .i64 h4) := hk0.cell 4
  have c5 : W0.cell? ⟨W1.heap.size, 5, none⟩ = some (.int .i64 h5) := hk0.cell 5
  have c6 : W0.cell? ⟨W1.heap.size, 6, none⟩ = some (.int .i64 h6) := hk0.cell 6
  have c7 : W0.cell? ⟨W1.heap.size, 7, none⟩ = some (.slice Ah7 h7l.length ch7) := hk0.cell 7
  have c8 : W0.cell? ⟨W1.heap.size, 8, none⟩ = some (.int .i64 h8) := hk0.cell 8
  have c9 : W0.cell? ⟨W1.heap.size, 9, none⟩ = some (.int .i64 h9) := hk0.cell 9
  have c10 : W0.cell? ⟨W1.heap.size, 10, none⟩ = some (.slice Ah10 h10l.length ch10) := hk0.cell 10
  have c11 : W0.cell? ⟨W1.heap.size, 11, none⟩ = some (.slice Ah11 h11l.length ch11) := hk0.cell 11
  clear hW0 hk0 hA0 d0 d35 d36 d37 d38 d39 d40 d41 d42 d43 d44 d45 d46
  have hwr := wrap_len h3l.length th3
  go_region_held3 (fun w' => w'.cell? ⟨W1.heap.size, 0, none⟩ = some (.string h0) ∧ w'.cell? ⟨W1.heap.size, 1, none⟩ = some (.int .i64 h1) ∧ w'.cell? ⟨W1.heap.size, 2, none⟩ = some (.int .i64 h2) ∧ w'.cell? ⟨W1.heap.size, 3, none⟩ = some (.slice Ah3 h3l.length ch3) ∧ Below W0.heap.size W0 w')
    (first | (have hB9 := below_tr (by assumption : _ ∧ _ ∧ _ ∧ _ ∧ Below W0.heap.size W0 _).2.2.2.2 hb'; exact ⟨keep_cell hB9 c0, keep_cell hB9 c1, keep_cell hB9 c2, keep_cell hB9 c3, hB9⟩) | (exact ⟨c0, c1, c2, c3, (Below.refl _ _).drew⟩)) (first
    | (go_at_call 52; refine (text_any _ _ (by assumption)).mono ?_; rintro e w' ⟨rfl, hb'⟩)
    | (go_at_call 53; refine (int_any _ _ (by assumption)).mono ?_; rintro e w' ⟨rfl, hb'⟩)
    | (go_at_call 51; refine (put6_any _ 1 _ (by omega) (by omega)).mono ?_; rintro e w' ⟨rfl, hb'⟩))
  have hBy := (by assumption : _ ∧ _ ∧ _ ∧ _ ∧ Below W0.heap.size W0 _).2.2.2.2
  obtain ⟨W2, hW2⟩ : ∃ W2, W2 = w' := ⟨_, rfl⟩
  subst hW2
  have hB2 : Below w.heap.size w W2 := hB0.trans (hBy.mono hB0.size)
  have hl3' := hl3.below hB2
  have d3 := keep_cell hBy c3
  have d4 := keep_cell hBy c4
  have d5 := keep_cell hBy c5
  have d6 := keep_cell hBy c6
  have d7 := keep_cell hBy c7
  have d8 := keep_cell hBy c8
  have d9 := keep_cell hBy c9
  have d10 := keep_cell hBy c10
  have d11 := keep_cell hBy c11
  clear hwr hBy hB0 c0 c1 c2 c3 c4 c5 c6 c7 c8 c9 c10 c11
  have hB22 := Below.refl W2.heap.size W2
  go_wp2_with fail
  go_loopw [183, 3, 10] (fun i s p wr => ∃ k : Nat, k ≤ h3l.length ∧ i = .int .i64 k ∧ s = .string (metF sh6 (h3l.take k)) ∧ Below W2.heap.size W2 wr) (fun i s p wr => h3l.length - (intOf i).toNat)
  case atStart => exact ⟨0, Nat.zero_le _, rfl, rfl, hB22⟩
  case round =>
    obtain ⟨k, hk, rfl, rfl, hB⟩ := hrel
    by_cases hlt : k < h3l.length
    · obtain ⟨b, o, rfl, hbl, hadd, hcell⟩ := Sl.row' (s := 3) (f := Met.cells) (fun _ => rfl) (by omega) (hl3'.below hB) k hlt
      have a0 : wr.cell? ⟨b, o + k * 3, none⟩ = _ := hcell 0 _ rfl
      have a1 := hcell 1 _ rfl
      have a2 := hcell 2 _ rfl
      have hsz := (metF_size sh6 (h3l.take k) (fun x hx' => (ok3.2 x (List.mem_of_mem_take hx')).2))
      have hlen : (h3l.take k).length = k := by simp; omega
      have hx2 := ok3.2 _ (List.getElem_mem hlt)
      have hsn := metF_snoc sh6 (h3l.take k) h3l[k]
      rw [← List.take_succ_eq_append_getElem hlt] at hsn
      rw [hlen] at hsz
      have HS := Lib.hid hsn
      clear hsn hcell hlen
      generalize metF sh6 (h3l.take k) = out at hsz HS ⊢
      generalize h3l[k] = x at a0 a1 a2 hx2 HS
      obtain ⟨x0, x1, x2⟩ := x
      obtain ⟨hw2, hx2⟩ := hx2
      simp only [Met.Wf, metSx] at a0 a1 a2 HS hw2 hx2
      try unfold s255 at hx2
      obtain ⟨hw2a, hw2c, hw2b⟩ := hw2
      have qx0 := putB_size (u64 x0) 8
      have qx1 := textB_size x1
      have qx2 := putB_size (u64 x2) 8
      obtain ⟨sx0, ex0, zx0, kx0⟩ := cat_of out (putB (u64 x0) 8) (by omega)
      obtain ⟨sx1, ex1, zx1, kx1⟩ := cat_of sx0 (textB x1) (by omega)
      obtain ⟨sx2, ex2, zx2, kx2⟩ := cat_of sx1 (putB (u64 x2) 8) (by omega)
      have HSx : Hid (metF sh6 (h3l.take (k + 1)) = sx2) := Lib.hid (by rw [HS.out]; show out ++ putB (u64 x0) 8 ++ textB x1 ++ putB (u64 x2) 8 = _; rw [ex2, ex1, ex0])
      have zlx : sx2.size ≤ 1000000 := by omega
      clear ex0 zx0 ex1 zx1 ex2 zx2 qx0 qx1 qx2
      clear HS zlx
      go_wp2_with fail
      obtain ⟨W0, hW0⟩ : ∃ W0, W0 = wr.alloc (.cells #[.int .i64 x0, .string x1, .int .i64 x2] 132) := ⟨_, rfl⟩
      have hk0 := Bk.new wr 132 #[.int .i64 x0, .string x1, .int .i64 x2]
      have hB0 : Below W2.heap.size W2 W0 := by rw [hW0]; exact hB.alloc hB.size _
      rw [← hW0] at hk0 ⊢
      have c0 : W0.cell? ⟨wr.heap.size, 0, none⟩ = some (.int .i64 x0) := hk0.cell 0
      have c1 : W0.cell? ⟨wr.heap.size, 1, none⟩ = some (.string x1) := hk0.cell 1
      have c2 : W0.cell? ⟨wr.heap.size, 2, none⟩ = some (.int .i64 x2) := hk0.cell 2
      clear hW0 hk0
      go_region_held3 (fun w' => w'.cell? ⟨wr.heap.size, 0, none⟩ = some (.int .i64 x0) ∧ w'.cell? ⟨wr.heap.size, 1, none⟩ = some (.string x1) ∧ w'.cell? ⟨wr.heap.size, 2, none⟩ = some (.int .i64 x2) ∧ Below W0.heap.size W0 w')
        (first | (have hB9 := below_tr (by assumption : _ ∧ _ ∧ _ ∧ Below W0.heap.size W0 _).2.2.2 hb'; exact ⟨keep_cell hB9 c0, keep_cell hB9 c1, keep_cell hB9 c2, hB9⟩) | (exact ⟨c0, c1, c2, (Below.refl _ _).drew⟩)) (first
        | (go_at_call 53; refine (int_any _ _ (by assumption)).mono ?_; rintro e w' ⟨rfl, hb'⟩)
        | (go_at_call 52; refine (text_any _ _ (by assumption)).mono ?_; rintro e w' ⟨rfl, hb'⟩))
      have hBz := (by assumption : _ ∧ _ ∧ _ ∧ Below W0.heap.size W0 _).2.2.2
      go_wp2_with fail
      exact ⟨⟨k + 1, by omega, by go_num, by rw [HSx.out], hB0.trans (hBz.mono hB0.size)⟩, by simp [intOf]; omega⟩
    · rw [List.take_of_length_le (show h3l.length ≤ k by omega)]
      rw [← HMB.out]
      obtain ⟨W3, hW3⟩ : ∃ W3, W3 = wr := ⟨_, rfl⟩
      subst hW3
      have c4 := keep_cell hB d4
      have c5 := keep_cell hB d5
      have c6 := keep_cell hB d6
      have c7 := keep_cell hB d7
      have c8 := keep_cell hB d8
      have c9 := keep_cell hB d9
      have c10 := keep_cell hB d10
      have c11 := keep_cell hB d11
      have hBv : Below w.heap.size w W3 := hB2.trans (hB.mono hB2.size)
      have hl11' := hl11.below hBv
      clear d3 d4 d5 d6 d7 d8 d9 d10 d11
      have hwr := wrap_len h11l.length th11
      go_wp2_with fail
      go_region_held3 (fun w' => w'.cell? ⟨W1.heap.size, 4, none⟩ = some (.int .i64 h4) ∧ w'.cell? ⟨W1.heap.size, 5, none⟩ = some (.int .i64 h5) ∧ w'.cell? ⟨W1.heap.size, 6, none⟩ = some (.int .i64 h6) ∧ w'.cell? ⟨W1.heap.size, 7, none⟩ = some (.slice Ah7 h7l.length ch7) ∧ w'.cell? ⟨W1.heap.size, 8, none⟩ = some (.int .i64 h8) ∧ w'.cell? ⟨W1.heap.size, 9, none⟩ = some (.int .i64 h9) ∧ w'.cell? ⟨W1.heap.size, 10, none⟩ = some (.slice Ah10 h10l.length ch10) ∧ w'.cell? ⟨W1.heap.size, 11, none⟩ = some (.slice Ah11 h11l.length ch11) ∧ Below W3.heap.size W3 w')
        (first | (have hB9 := below_tr (by assumption : _ ∧ _ ∧ _ ∧ _ ∧ _ ∧ _ ∧ _ ∧ _ ∧ Below W3.heap.size W3 _).2.2.2.2.2.2.2.2 hb'; exact ⟨keep_cell hB9 c4, keep_cell hB9 c5, keep_cell hB9 c6, keep_cell hB9 c7, keep_cell hB9 c8, keep_cell hB9 c9, keep_cell hB9 c10, keep_cell hB9 c11, hB9⟩) | (exact ⟨c4, c5, c6, c7, c8, c9, c10, c11, (Below.refl _ _).drew⟩)) (first
        | (go_at_call 53; refine (int_any _ _ (by assumption)).mono ?_; rintro e w' ⟨rfl, hb'⟩)
        | (go_at_call 58; ((with_reducible refine (Cu.out _ (below_tr hBv (by assumption : _ ∧ _ ∧ _ ∧ _ ∧ _ ∧ _ ∧ _ ∧ _ ∧ Below W3.heap.size W3 _).2.2.2.2.2.2.2.2)).mono ?_); rintro e w' ⟨rfl, hb'⟩))
        | (go_at_call 58; ((with_reducible refine (Cd.out _ (below_tr hBv (by assumption : _ ∧ _ ∧ _ ∧ _ ∧ _ ∧ _ ∧ _ ∧ _ ∧ Below W3.heap.size W3 _).2.2.2.2.2.2.2.2)).mono ?_); rintro e w' ⟨rfl, hb'⟩))
        | (go_at_call 51; refine (put6_any _ 1 _ (by omega) (by omega)).mono ?_; rintro e w' ⟨rfl, hb'⟩))
      have hBy := (by assumption : _ ∧ _ ∧ _ ∧ _ ∧ _ ∧ _ ∧ _ ∧ _ ∧ Below W3.heap.size W3 _).2.2.2.2.2.2.2.2
      obtain ⟨W4, hW4⟩ : ∃ W4, W4 = w' := ⟨_, rfl⟩
      subst hW4
      have hB4 : Below w.heap.size w W4 := hBv.trans (hBy.mono hBv.size)
      have hl11'' := hl11.below hB4
      have d11 := keep_cell hBy c11
      clear hwr hBy c4 c5 c6 c7 c8 c9 c10 c11
      have hB44 := Below.refl W4.heap.size W4
      go_wp2_with fail
      go_loopw [223, 3, 12] (fun i s p wr => ∃ k : Nat, k ≤ h11l.length ∧ i = .int .i64 k ∧ s = .string (doneF sb3 (h11l.take k)) ∧ Below W4.heap.size W4 wr) (fun i s p wr => h11l.length - (intOf i).toNat)
      case atStart => exact ⟨0, Nat.zero_le _, rfl, rfl, hB44⟩
      case round =>
        obtain ⟨k, hk, rfl, rfl, hB⟩ := hrel
        by_cases hlt : k < h11l.length
        · obtain ⟨b, o, rfl, hbl, hadd, hcell⟩ := Sl.row' (s := 3) (f := Done.cells) (fun _ => rfl) (by omega) (hl11''.below hB) k hlt
          have a0 : wr.cell? ⟨b, o + k * 3, none⟩ = _ := hcell 0 _ rfl
          have a1 := hcell 1 _ rfl
          have a2 := hcell 2 _ rfl
          have hsz := (doneF_size sb3 (h11l.take k) (fun x hx' => (ok11.2 x (List.mem_of_mem_take hx')).2))
          have hlen : (h11l.take k).length = k := by simp; omega
          have hx2 := ok11.2 _ (List.getElem_mem hlt)
          have hsn := doneF_snoc sb3 (h11l.take k) h11l[k]
          rw [← List.take_succ_eq_append_getElem hlt] at hsn
          rw [hlen] at hsz
          have HS := Lib.hid hsn
          clear hsn hcell hlen
          generalize doneF sb3 (h11l.take k) = out at hsz HS ⊢
          generalize h11l[k] = x at a0 a1 a2 hx2 HS
          obtain ⟨x0, x1, x2⟩ := x
          obtain ⟨hw2, hx2⟩ := hx2
          simp only [Done.Wf, doneSx] at a0 a1 a2 HS hw2 hx2
          try unfold s255 at hx2
          obtain ⟨hw2a, hw2b, hw2c⟩ := hw2
          have qx0 := putB_size (u64 x0) 8
          have qx1 := putB_size (u64 x1) 8
          have qx2 := putB_size (u64 x2) 8
          obtain ⟨sx0, ex0, zx0, kx0⟩ := cat_of out (putB (u64 x0) 8) (by omega)
          obtain ⟨sx1, ex1, zx1, kx1⟩ := cat_of sx0 (putB (u64 x1) 8) (by omega)
          obtain ⟨sx2, ex2, zx2, kx2⟩ := cat_of sx1 (putB (u64 x2) 8) (by omega)
          have HSx : Hid (doneF sb3 (h11l.take (k + 1)) = sx2) := Lib.hid (by rw [HS.out]; show out ++ putB (u64 x0) 8 ++ putB (u64 x1) 8 ++ putB (u64 x2) 8 = _; rw [ex2, ex1, ex0])
          have zlx : sx2.size ≤ 1000000 := by omega
          clear ex0 zx0 ex1 zx1 ex2 zx2 qx0 qx1 qx2
          clear HS zlx
          go_wp2_with fail
          obtain ⟨W0, hW0⟩ : ∃ W0, W0 = wr.alloc (.cells #[.int .i64 x0, .int .i64 x1, .int .i64 x2] 138) := ⟨_, rfl⟩
          have hk0 := Bk.new wr 138 #[.int .i64 x0, .int .i64 x1, .int .i64 x2]
          have hB0 : Below W4.heap.size W4 W0 := by rw [hW0]; exact hB.alloc hB.size _
          rw [← hW0] at hk0 ⊢
          have c0 : W0.cell? ⟨wr.heap.size, 0, none⟩ = some (.int .i64 x0) := hk0.cell 0
          have c1 : W0.cell? ⟨wr.heap.size, 1, none⟩ = some (.int .i64 x1) := hk0.cell 1
          have c2 : W0.cell? ⟨wr.heap.size, 2, none⟩ = some (.int .i64 x2) := hk0.cell 2
          clear hW0 hk0
          go_region_held3 (fun w' => w'.cell? ⟨wr.heap.size, 0, none⟩ = some (.int .i64 x0) ∧ w'.cell? ⟨wr.heap.size, 1, none⟩ = some (.int .i64 x1) ∧ w'.cell? ⟨wr.heap.size, 2, none⟩ = some (.int .i64 x2) ∧ Below W0.heap.size W0 w')
            (first | (have hB9 := below_tr (by assumption : _ ∧ _ ∧ _ ∧ Below W0.heap.size W0 _).2.2.2 hb'; exact ⟨keep_cell hB9 c0, keep_cell hB9 c1, keep_cell hB9 c2, hB9⟩) | (exact ⟨c0, c1, c2, (Below.refl _ _).drew⟩)) (first
            | (go_at_call 53; refine (int_any _ _ (by assumption)).mono ?_; rintro e w' ⟨rfl, hb'⟩))
          have hBz := (by assumption : _ ∧ _ ∧ _ ∧ Below W0.heap.size W0 _).2.2.2
          go_wp2_with fail
          exact ⟨⟨k + 1, by omega, by go_num, by rw [HSx.out], hB0.trans (hBz.mono hB0.size)⟩, by simp [intOf]; omega⟩
        · rw [List.take_of_length_le (show h11l.length ≤ k by omega)]
          go_wp2_with fail
          go_ret
          exact ⟨by rw [HR.out]; rfl, hB4.trans (hB.mono hB4.size)⟩
end Go.Proofs.Ytoobjfpkdlffpaa
end
section
namespace Go.Proofs.Ytoobjfpkdlffpaa
open Go.RowKit Go.Proofs.Mem Go.Sort
set_option linter.unusedVariables false
set_option linter.unusedSimpArgs false
def ObS (o : Ob) : Prop := s255 o.name ∧ (o.kind = 0 → wlS o.w) ∧ (o.kind = 1 → pdS o.p) ∧ (o.kind = 2 → ndS o.n) ∧ (o.kind = 3 → grS o.g) ∧ (o.kind = 4 → HpS o.h)
theorem object_any (o : Ob) (w : World) (hk : 0 ≤ o.kind ∧ o.kind ≤ 4) (ho : o.Ok w) (hs : ObS o) :
    Calls Try.prog 32 #[.agg o.cells.toArray] w fun e w' => e = .returned (.string (objB o)) ∧ Below w.heap.size w w' := by
  obtain ⟨hn, h0, h1, h2, h3, h4⟩ := hs
  have hc : o.kind = 0 ∨ o.kind = 1 ∨ o.kind = 2 ∨ o.kind = 3 ∨ o.kind = 4 := by omega
  rcases hc with hc | hc | hc | hc | hc
  · exact object_wl o w hc ho.w ho.version hn (h0 hc)
  · exact object_pd o w hc ho.p ho.version hn (h1 hc)
  · exact object_nd o w hc ho.n ho.version hn (h2 hc)
  · exact object_gr o w hc ho.g ho.version hn (h3 hc)
  · exact object_hp o w hc ho.h ho.version hn (h4 hc)
theorem ob_cells (o : Ob) : ∃ x1 x2 x3 x4 x5 x6 x7 x8 x9 x10 x11 x12 x13 x14 x15 x16 x17 x18 x19 x20 x21 x22 x23 x24 x25 x26 x27 x28 x29 x30 x31 x32 x33 x34 x35 x36 x37 x38 x39 x40 x41 x42 x43 x44 x45 x46 : Value, o.cells = [.int .i64 o.kind, x1, x2, x3, x4, x5, x6, x7, x8, x9, x10, x11, x12, x13, x14, x15, x16, x17, x18, x19, x20, x21, x22, x23, x24, x25, x26, x27, x28, x29, x30, x31, x32, x33, x34, x35, x36, x37, x38, x39, x40, x41, x42, x43, x44, x45, x46] := by
  obtain ⟨kind, name, version, ⟨w0, w1, w2, w3, w4, w5, w6⟩, ⟨p0, p1, p2, p3, p4, p5, p6, p7, p8, p9⟩, ⟨n0, n1, n2, n3, n4, n5, n6⟩, ⟨g0, g1, g2, g3, g4, g5, g6, g7⟩, ⟨h0, h1, h2, h3, h4, ⟨h5, h6, h7⟩, ⟨h8, h9, h10⟩, h11⟩⟩ := o
  exact ⟨.string name, .int .u64 version, .int .i64 w0, .int .i64 w1, .int .i64 w2, w3.v, w4.v, w5.v, .int .i64 w6, .string p0, .string p1, .int .i64 p2, .int .i64 p3, .int .i64 p4, .int .i64 p5, p6.v, p7.v, p8.v, .int .i64 p9, .string n0, .int .i64 n1, .int .i64 n2, n3.v, n4.v, .int .i64 n5, .bool n6, .int .i64 g0, .int .i64 g1, .int .i64 g2, .int .i64 g3, .int .i64 g4, g5.v, g6.v, .int .i64 g7, .string h0, .int .i64 h1, .int .i64 h2, h3.v, .int .i64 h4, .int .i64 h5, .int .i64 h6, h7.v, .int .i64 h8, .int .i64 h9, h10.v, h11.v, rfl⟩
set_option maxHeartbeats 8000000 in
set_option maxRecDepth 100000 in
theorem same_eq (a b : Ob) (w : World) (k : Int) (hk : 0 ≤ k ∧ k ≤ 4) (ha : a.kind = k) (hb : b.kind = k) (hao : a.Ok w) (hbo : b.Ok w) (has : ObS a) (hbs : ObS b) (he : objB a = objB b) :
    Calls Try.prog 13 #[.agg a.cells.toArray, .agg b.cells.toArray] w fun e w' => e = .returned (.bool true) ∧ Below w.heap.size w w' := by
  have CA : Hid (∀ w1, Below w.heap.size w w1 → Calls Try.prog 32 #[.agg a.cells.toArray] w1 fun e w' => e = .returned (.string (objB a)) ∧ Below w1.heap.size w1 w') := Lib.hid (fun w1 hb1 => object_any a w1 (by omega) (hao.below hb1) has)
  have CB : Hid (∀ w1, Below w.heap.size w w1 → Calls Try.prog 32 #[.agg b.cells.toArray] w1 fun e w' => e = .returned (.string (objB b)) ∧ Below w1.heap.size w1 w') := Lib.hid (fun w1 hb1 => object_any b w1 (by omega) (hbo.below hb1) hbs)
  rw [← he] at CB
  obtain ⟨x1, x2, x3, x4, x5, x6, x7, x8, x9, x10, x11, x12, x13, x14, x15, x16, x17, x18, x19, x20, x21, x22, x23, x24, x25, x26, x27, x28, x29, x30, x31, x32, x33, x34, x35, x36, x37, x38, x39, x40, x41, x42, x43, x44, x45, x46, hx⟩ := ob_cells a
  obtain ⟨y1, y2, y3, y4, y5, y6, y7, y8, y9, y10, y11, y12, y13, y14, y15, y16, y17, y18, y19, y20, y21, y22, y23, y24, y25, y26, y27, y28, y29, y30, y31, y32, y33, y34, y35, y36, y37, y38, y39, y40, y41, y42, y43, y44, y45, y46, hy⟩ := ob_cells b
  rw [ha] at hx
  rw [hb] at hy
  rw [hx] at CA
  rw [hy] at CB
  rw [hx, hy]
  generalize objB a = s at CA CB
  clear hx hy hao hbo has hbs he ha hb
  obtain ⟨k0, k4⟩ := hk
  have kk : (k != k) = false := by simp
  have k5 : ¬ 5 ≤ k := by omega
  go_enter Try.func13, Try.ntmps13
  go_wp2_with fail
  obtain ⟨W0, hW0⟩ : ∃ W0, W0 = (w.alloc (.cells #[.int .i64 k, x1, x2, x3, x4, x5, x6, x7, x8, x9, x10, x11, x12, x13, x14, x15, x16, x17, x18, x19, x20, x21, x22, x23, x24, x25, x26, x27, x28, x29, x30, x31, x32, x33, x34, x35, x36, x37, x38, x39, x40, x41, x42, x43, x44, x45, x46] 57)).alloc (.cells #[.int .i64 k, y1, y2, y3, y4, y5, y6, y7, y8, y9, y10, y11, y12, y13, y14, y15, y16, y17, y18, y19, y20, y21, y22, y23, y24, y25, y26, y27, y28, y29, y30, y31, y32, y33, y34, y35, y36, y37, y38, y39, y40, y41, y42, y43, y44, y45, y46] 57) := ⟨_, rfl⟩
  have hka := (Bk.new w 57 #[.int .i64 k, x1, x2, x3, x4, x5, x6, x7, x8, x9, x10, x11, x12, x13, x14, x15, x16, x17, x18, x19, x20, x21, x22, x23, x24, x25, x26, x27, x28, x29, x30, x31, x32, x33, x34, x35, x36, x37, x38, x39, x40, x41, x42, x43, x44, x45, x46]).alloc (.cells #[.int .i64 k, y1, y2, y3, y4, y5, y6, y7, y8, y9, y10, y11, y12, y13, y14, y15, y16, y17, y18, y19, y20, y21, y22, y23, y24, y25, y26, y27, y28, y29, y30, y31, y32, y33, y34, y35, y36, y37, y38, y39, y40, y41, y42, y43, y44, y45, y46] 57)
  have hkb := Bk.new (w.alloc (.cells #[.int .i64 k, x1, x2, x3, x4, x5, x6, x7, x8, x9, x10, x11, x12, x13, x14, x15, x16, x17, x18, x19, x20, x21, x22, x23, x24, x25, x26, x27, x28, x29, x30, x31, x32, x33, x34, x35, x36, x37, x38, x39, x40, x41, x42, x43, x44, x45, x46] 57)) 57 #[.int .i64 k, y1, y2, y3, y4, y5, y6, y7, y8, y9, y10, y11, y12, y13, y14, y15, y16, y17, y18, y19, y20, y21, y22, y23, y24, y25, y26, y27, y28, y29, y30, y31, y32, y33, y34, y35, y36, y37, y38, y39, y40, y41, y42, y43, y44, y45, y46]
  rw [World.size_alloc] at hkb
  have hB0 : Below w.heap.size w W0 := by rw [hW0]; exact (below_al _ _).alloc (by simp) _
  rw [← hW0] at hka hkb ⊢
  clear hW0
  have hS : ∃ fs, Try.prog.underlying 57 = some (.struct fs) := ⟨_, Try.underlying57⟩
  obtain ⟨fs, hfs⟩ := hS
  have HF := Lib.hid hfs
  clear hfs
  refine wp_region_quiet_below (by kernel_rfl) (by kernel_rfl) ?_
  refine q_load hka rfl 57 (.tmp 2) rfl rfl _ HF.out rfl (by kernel_rfl) ?_
  quiet_step ((go_at_call 32; (with_reducible exact Calls.regrown_of (CA.out _ (below_tr hB0 (below_regrown _ _ _))))))
  refine q_load hkb rfl 57 (.tmp 3) rfl rfl _ HF.out rfl (by kernel_rfl) ?_
  quiet_step ((go_at_call 32; (with_reducible exact Calls.regrown_of (CB.out _ (below_tr hB0 (below_regrown _ _ _))))))
  repeat (quiet_step (fail))
  refine q_done fun W1 hBz => ?_
  go_wp2_with fail
  go_ret
  exact ⟨rfl, hB0.trans (hBz.mono hB0.size)⟩
end Go.Proofs.Ytoobjfpkdlffpaa
end
section
namespace Go.Proofs.Mem
open Go Go.RowKit Go.Sort
set_option linter.unusedVariables false
section
variable {P : Program} {ops : Array Oper} {C : World → Prop} {md : Region.Mode} {l n : Nat}
end
end Go.Proofs.Mem
end
section
namespace Go.Proofs.Mem
open Go Go.RowKit Go.Sort
set_option linter.unusedVariables false
structure Stilled (ops ops2 : Array Oper) (z : Nat) (o o2 : Oper) : Prop where
  size : ops2.size = ops.size
  at_z : ops[z]? = some o
  at_z2 : ops2[z]? = some o2
  same : ∀ i, i ≠ z → ops2[i]? = ops[i]?
  after : o2.after = o.after
  guard : o.guard = none
  guard2 : o2.guard = none
  dst2 : o2.dst = none
  free : ∀ (i : Nat) (oi : Oper), ops[i]? = some oi → ∀ b, oi.guard ≠ some (z, b)
  cover : ∀ j, j < ops.size → j ≠ z → ∃ e ∈ o.after, Region.binds .any e = true ∧ e.on = j
  up : ∀ (i : Nat) (oi : Oper), ops[i]? = some oi → ∀ e ∈ oi.after, Region.binds .any e = true → e.on < i
section
variable {P : Program} {ops ops2 : Array Oper} {C : World → Prop} {z : Nat} {o o2 : Oper}
theorem Stilled.ready (S : Stilled ops ops2 z o o2) (l : Array Bool) : Region.ready .any ops2 l = Region.ready .any ops l := by
  unfold Region.ready
  rw [S.size]
  apply List.filter_congr
  intro i _
  by_cases h : i = z
  · subst h
    rw [S.at_z, S.at_z2]
    simp only [Option.map_some, S.after]
  · rw [S.same i h]
theorem Stilled.wanted (S : Stilled ops ops2 z o o2) (i : Nat) (oi : Oper) (hi : ops[i]? = some oi) (a : Act) : Region.wanted oi (yielded ops2 a.tmps) = Region.wanted oi (yielded ops a.tmps) := by
  unfold Region.wanted
  cases hg : oi.guard with
  | none => rfl
  | some gb =>
    obtain ⟨g, b⟩ := gb
    have hz : g ≠ z := fun e => S.free i oi hi b (by rw [hg, e])
    simp only [yielded, S.same g hz]
theorem Stilled.all (S : Stilled ops ops2 z o o2) (l : Array Bool) (hl : l.size = ops.size) (hr : Region.ready .any ops l = []) : ∀ i, i < ops.size → l.getD i false = true := by
  intro i
  induction i using Nat.strongRecOn with
  | ind i ih =>
    intro hi
    cases e : l.getD i false
    · exfalso
      have : i ∈ Region.ready .any ops l := by
        unfold Region.ready
        rw [List.mem_filter]
        refine ⟨List.mem_range.2 hi, ?_⟩
        have e' : l.getD i true = false := by
          have hi' : i < l.size := by omega
          simpa [Array.getD, hi'] using e
        rw [e', Array.getElem?_eq_getElem hi]
        simp only [Bool.not_false, Bool.true_and, Option.map_some, Option.getD_some]
        rw [Array.all_eq_true']
        intro x hx
        cases hb : Region.binds .any x
        · rfl
        · have hlt := S.up i ops[i] (Array.getElem?_eq_getElem hi) x hx hb
          rw [ih x.on hlt (by omega)]
          rfl
      rw [hr] at this
      cases this
    · rfl
theorem Stilled.others (S : Stilled ops ops2 z o o2) (l : Array Bool) (h : z ∈ Region.ready .any ops l) : ∀ j, j < ops.size → j ≠ z → l.getD j false = true := by
  intro j hj hz
  unfold Region.ready at h
  rw [List.mem_filter, Bool.and_eq_true, S.at_z] at h
  have h2 := h.2.2
  simp only [Option.map_some, Option.getD_some] at h2
  rw [Array.all_eq_true'] at h2
  obtain ⟨e, he, hb, rfl⟩ := S.cover j hj hz
  have := h2 e he
  rw [hb] at this
  simpa using this
theorem ready_nil (l : Array Bool) (hl : l.size = ops.size) (h : ∀ i, i < ops.size → l.getD i false = true) : Region.ready .any ops l = [] := by
  unfold Region.ready
  rw [List.filter_eq_nil_iff]
  intro i hi
  have hi' := List.mem_range.1 hi
  have h1 := h i hi'
  have e' : l.getD i true = true := by
    have : i < l.size := by omega
    simpa [Array.getD, this] using h1
  rw [e']
  simp
theorem wpAny_last (S : Stilled ops ops2 z o o2) {Q : Act → Prop} {Q' : Exit → Act → World → Prop} {R : Act → World → Prop} (hR : ∀ a w, R a w → Q' .normal a w)
    (hlast : ∀ a w, C w → Q a → ∀ K : Act → World → Prop, (∀ a' w', R a' w' → K a' w') → wpOp P ops Q' z K a w) :
    ∀ (fuel : Nat) (l : Array Bool) (a : Act) (w : World), l.size = ops.size → l.getD z false = false → C w → wpAnyQ P .any ops2 C Q fuel l a → wpAny P .any ops Q' fuel l a w := by
  have hz : z < ops.size := (Array.getElem?_eq_some_iff.1 S.at_z).1
  have hno : ∀ l : Array Bool, l.size = ops.size → l.getD z false = false → Region.ready .any ops l ≠ [] := fun l hl hf hr => by
    rw [S.all l hl hr z hz] at hf
    cases hf
  intro fuel
  induction fuel with
  | zero =>
    intro l a w hl hf hC h
    exact absurd (by rw [← S.ready l]; exact h.1) (hno l hl hf)
  | succ fuel ih =>
    intro l a w hl hf hC h
    refine ⟨fun hr => absurd hr (hno l hl hf), fun i hi => ?_⟩
    have hq := h.2 i (by rw [S.ready l]; exact hi)
    by_cases hiz : i = z
    · subst hiz
      have hall : Region.ready .any ops (l.setIfInBounds i true) = [] := by
        refine ready_nil _ (by simpa using hl) fun j hj => ?_
        by_cases hji : j = i
        · subst hji
          have : j < l.size := by omega
          simp [Array.getD, this]
        · have h1 := S.others l hi j hj hji
          have : j < l.size := by omega
          simp only [Array.getD_eq_getD_getElem?] at h1 ⊢
          rw [Array.getElem?_setIfInBounds_ne (Ne.symm hji)]
          exact h1
      have hQa : Q a := by
        unfold qOp at hq
        rw [S.at_z2] at hq
        simp only [Region.wanted, S.guard2, if_true] at hq
        obtain ⟨v, _, hk⟩ := hq
        have ea : a.put o2.dst v = a := by rw [S.dst2]; rfl
        rw [ea] at hk
        cases fuel with
        | zero => exact hk.2
        | succ m => exact hk.1 (by rw [S.ready]; exact hall)
      refine hlast a w hC hQa _ fun a' w' hr' => ?_
      cases fuel with
      | zero => exact ⟨hall, hR _ _ hr'⟩
      | succ m => exact ⟨fun _ => hR _ _ hr', fun j hj => by rw [hall] at hj; cases hj⟩
    · have hqo : qOp P ops C i (wpAnyQ P .any ops2 C Q fuel (l.setIfInBounds i true)) a := by
        unfold qOp at hq ⊢
        rw [S.same i hiz] at hq
        cases ho : ops[i]? with
        | none => rw [ho] at hq; exact hq
        | some oi =>
          rw [ho] at hq
          simp only [S.wanted i oi ho a] at hq
          exact hq
      refine wpOp_of_qOp hC (fun a' w' hC' hk => ih _ a' w' (by simpa using hl) ?_ hC' hk) hqo
      simp only [Array.getD_eq_getD_getElem?] at hf ⊢
      rw [Array.getElem?_setIfInBounds_ne hiz]
      exact hf
end
def still (o : Oper) : Oper := { o with op := .move (.const undef), dst := none, guard := none }
def stillLast : List Oper → List Oper
  | [] => []
  | [o] => [still o]
  | x :: y :: r => x :: stillLast (y :: r)
theorem stillLast_eq : ∀ (L : List Oper) (o : Oper), stillLast (L ++ [o]) = L ++ [still o]
  | [], _ => rfl
  | [x], o => rfl
  | x :: y :: r, o => by
    have := stillLast_eq (y :: r) o
    show x :: stillLast (y :: r ++ [o]) = _
    rw [this]
    rfl
def lastOk (l : List Oper) : Bool :=
  match l.getLast? with
  | none => false
  | some o =>
    let z := l.length - 1
    o.guard.isNone && (l.all fun x => match x.guard with | some (g, _) => g != z | none => true) &&
    ((List.range z).all fun j => o.after.toList.any fun e => Region.binds .any e && e.on == j) &&
    ((List.range l.length).all fun i => ((l[i]?).map fun x => x.after.toList.all fun e => !Region.binds .any e || decide (e.on < i)).getD true)
theorem stilled_of {L : List Oper} {o : Oper} (h : lastOk (L ++ [o]) = true) : Stilled (L ++ [o]).toArray (L ++ [still o]).toArray L.length o (still o) := by
  unfold lastOk at h
  rw [List.getLast?_append] at h
  simp only [List.getLast?_singleton, Option.some_or, List.length_append, List.length_cons, List.length_nil, Nat.zero_add, Nat.add_sub_cancel, Bool.and_eq_true] at h
  obtain ⟨⟨⟨h1, h2⟩, h3⟩, h4⟩ := h
  refine ⟨by simp, by simp, by simp, fun i hi => ?_, rfl, by simpa using h1, rfl, rfl, fun i oi hoi b hb => ?_, fun j hj hjz => ?_, fun i oi hoi e he hb => ?_⟩
  · simp only [List.getElem?_toArray]
    rcases Nat.lt_or_ge i L.length with hlt | hge
    · rw [List.getElem?_append_left hlt, List.getElem?_append_left hlt]
    · rw [List.getElem?_eq_none (by simp; omega), List.getElem?_eq_none (by simp; omega)]
  · have hm : oi ∈ L ++ [o] := by
      rw [List.getElem?_toArray] at hoi
      exact List.mem_of_getElem? hoi
    have := List.all_eq_true.1 h2 oi hm
    rw [hb] at this
    simp at this
  · have hj' : j < L.length := by simp at hj; omega
    have := List.all_eq_true.1 h3 j (List.mem_range.2 hj')
    obtain ⟨e, he, hx⟩ := List.any_eq_true.1 this
    rw [Bool.and_eq_true] at hx
    exact ⟨e, Array.mem_toList_iff.1 he, hx.1, by simpa using hx.2⟩
  · rw [List.getElem?_toArray] at hoi
    have hi := (List.getElem?_eq_some_iff.1 hoi).1
    have := List.all_eq_true.1 h4 i (List.mem_range.2 (by simpa using hi))
    rw [hoi] at this
    simp only [Option.map_some, Option.getD_some] at this
    have h5 := List.all_eq_true.1 this e (Array.mem_toList_iff.2 he)
    rw [hb] at h5
    simpa using h5
theorem wp_region_quiet_last {P : Program} {id : Nat} {Q : Exit → Act → World → Prop} {a : Act} {w : World} {l L : List Oper} {o : Oper} (hl : l = L ++ [o]) (hm : P.follows .mixedOrders = true) (hB : Region.lexB .any (stillLast l).toArray = true) (hk : lastOk l = true)
    (h : wpQuiet P (stillLast l).toArray (fun w' => ∃ p : Regrown, w' = grow (redrawn w p.d) p.os) (fun a' => ∀ w', (∃ p : Regrown, w' = grow (redrawn w p.d) p.os) → o.wp P a' w' (fun a w => Q .normal a w) Q) (stillLast l) a) : (Code.region id l.toArray true).wp P Q a w := by
  subst hl
  rw [stillLast_eq] at hB h
  have S := stilled_of hk
  simp only [Region.lexB, Bool.and_eq_true] at hB
  have hq := wpAnyQ_lex (P := P) (ops := (L ++ [still o]).toArray) (C := fun w' => ∃ p : Regrown, w' = grow (redrawn w p.d) p.os) (md := .any) hB.1 (L ++ [still o]) 0 (Array.replicate (L ++ [still o]).toArray.size false) a (by simp) (by simpa using hB.2) h
  refine wp_region_any hm (wpAny_last S (R := fun a w => Q .normal a w) (fun _ _ h => h) (fun a' w' hC hQ K hK => ?_) _ _ _ _ (by simp) (by simp) (regrown_of_below ((Below.refl _ w).drew)) (by simpa using hq))
  unfold wpOp
  rw [S.at_z]
  simp only [Region.wanted, S.guard, if_true]
  obtain ⟨rp, rfl⟩ := hC
  exact .inl (Oper.wp_mono hK (hQ rp))
end Go.Proofs.Mem
end
section
namespace Go.Proofs.Ytoobjfpkdlffpaa
open Go.RowKit Go.Proofs.Mem
set_option linter.unusedVariables false
set_option linter.unusedSimpArgs false
set_option maxRecDepth 100000 in
theorem mclone (w : World) (b n : Nat) (D : DataW Value) (h : Mp Try.prog w 88 b n D) :
    Calls Try.prog 24 #[.map (some b)] w fun e w' => e = .returned (.map (some w.heap.size)) ∧ Mp Try.prog w' 88 w.heap.size n D ∧ Below w.heap.size w w' ∧ w'.heap.size = w.heap.size + 1 := by
  obtain ⟨es, clock, hb, F, hs, hD⟩ := id h
  have hlt := h.lt
  have HE := Lib.hid (And.intro F (And.intro hs hD))
  have HH := Lib.hid h
  have hU : Try.prog.underlying 83 = some (.map 88 57) := Try.underlying83
  have hI : Try.prog.underlying 20 = some (.interface #[]) := Try.underlying20
  have hq := fun w => run_eql_map_nil_sl (P := Try.prog) w 83 _ _ (some b) hU
  clear h F hs hD
  go_enter Try.func24, Try.ntmps24
  go_wp2
  rw [run_callFunc_extern Try.func43 (by kernel_rfl) (by kernel_rfl) (by kernel_rfl) (e := Extern.MapsClone.clone) (by kernel_rfl), run_maps_clone_sl w 83 hb]
  simp only [Result.andThen]
  rw [Oper.upon_value]
  go_wp2
  rw [run_typeAssert_map_sl _ 83 20 _ _ _ hU]
  simp only [Result.andThen]
  rw [Oper.upon_value]
  go_wp2
  go_ret
  exact ⟨rfl, ⟨es, clock, (MapKept.heap_alloc w _).1, HE.out⟩, below_al w _, World.size_alloc _ _⟩
def CopySt (w : World) (n : Nat) (D : DataW Value) (most : Int) (now : Nat) (evs : List Ev) (e : Ending) (w' : World) : Prop :=
  ∃ p2 b2 ev2, e = .returned (.pointer (some ⟨p2, 0, none⟩)) ∧ StIs w' p2 b2 n D most now ev2 evs ∧ w.heap.size ≤ b2 ∧ Below w.heap.size w w'
set_option maxHeartbeats 2000000 in
set_option maxRecDepth 100000 in
theorem scopy_any (w : World) (p b n : Nat) (D : DataW Value) (most : Int) (now : Nat) (ev : Value) (evs : List Ev) (h : StIs w p b n D most now ev evs) (hevs : evs.length ≤ 1024) :
    Calls Try.prog 7 #[.pointer (some ⟨p, 0, none⟩)] w (CopySt w n D most now evs) := by
  obtain ⟨d0, d1, d2, d3⟩ := h.cells
  have hsl := Sl.of_own h.2.2.2
  obtain ⟨A, c, rfl, hc, hA, hlen, hx⟩ := id hsl
  have HS := Lib.hid h
  have HL := Lib.hid (And.intro hsl hevs)
  clear h hsl hx hlen hc hA hevs
  go_enter Try.func7, Try.ntmps7
  go_wp2_with fail
  refine wp_region_sched [0, 1, 2, 3, 4, 5, 6, 7, 9, 10, 11, 12, 13, 14, 15, 16] [(false, 8), (false, 17), (false, 18), (false, 19), (false, 20)] [] (fun i => !(i == 3 || i == 7 || i == 12 || i == 16)) (fun w' => w'.cell? ⟨p, 0, none⟩ = some (.int .i64 most) ∧ w'.cell? ⟨p, 1, none⟩ = some (.map (some b)) ∧ w'.cell? ⟨p, 2, none⟩ = some (.int .u64 now) ∧ w'.cell? ⟨p, 3, none⟩ = some (.slice A evs.length c)) (by kernel_rfl) (by kernel_rfl) (fun c a d v w h => by cases d <;> exact h) ⟨d0, d1, d2, d3⟩ fun u0 Hu => ?_
  have hS0 : StIs u0 p b n D most now (.slice A evs.length c) evs := by rw [Hu.out]; exact HS.out.below (Below.refl _ w).drew
  have BU : Below w.heap.size w u0 := by rw [Hu.out]; exact (Below.refl _ w).drew
  have hz0 : u0.heap.size = w.heap.size := by rw [Hu.out]; rfl
  have HU := Lib.hid (And.intro hS0 (And.intro BU hz0))
  clear hS0 BU hz0 Hu d0 d1 d2 d3
  iterate 16
    first
      | refine readsL_free (v := ?_) (by rfl) (by rfl) (fun w' => ?_) ?_
        rotate_left
        · go_simp
          with_reducible rfl
      | refine readsL_step (v := ?_) (by rfl) (by rfl) (by rfl) (fun w' hS => ?_) ?_
        rotate_left
        · have u0 := hS.1
          have u1 := hS.2.1
          have u2 := hS.2.2.1
          have u3 := hS.2.2.2
          clear hS
          go_simp
          with_reducible rfl
    simp only [Act.put, List.setIfInBounds_toArray, List.set_cons_zero, List.set_cons_succ, List.getElem_toArray, List.getElem_cons_succ, List.getElem_cons_zero]
  refine readsL_nil ?_
  refine earlyL_call (R := fun v w' => v = .map (some u0.heap.size) ∧ Mp Try.prog w' 88 u0.heap.size n D ∧ Below u0.heap.size u0 w' ∧ w'.heap.size = u0.heap.size + 1) 24 #[.map (some b)] (by rfl) (by rfl) (by go_simp) ((mclone u0 b n D HU.out.1.2.2.1).mono ?_) ?_
  · rintro e w' ⟨rfl, h1, h2, h3⟩
    exact ⟨_, rfl, rfl, h1, h2, h3⟩
  rintro _ w1 ⟨rfl, hm1, b1, hz1⟩
  have S1 := HU.out.1.below b1
  refine ⟨S1.cells, ?_⟩
  have hsl1 := (HL.out.1.below HU.out.2.1).below b1
  have H1 := Lib.hid (And.intro S1 (And.intro hm1 (And.intro b1 hz1)))
  clear S1 hm1 b1 hz1
  simp only [Act.put, List.setIfInBounds_toArray, List.set_cons_zero, List.set_cons_succ, List.getElem_toArray, List.getElem_cons_succ, List.getElem_cons_zero]
  have hk : evs.length * 40 ≤ 140737488355328 := by have := HL.out.2; omega
  have CE := clone_ev evs.length _ _ w1 hsl1 (evs_one evs) hk
  clear hk hsl1
  refine earlyL_slice (n := evs.length) (R := fun v' w' => w'.ownsRow w1.heap.size 91 4 v' evs.length (evs.flatMap Ev.cells) ∧ Below w1.heap.size w1 w') 25 #[.slice A evs.length c] (by rfl) (by rfl) (by go_simp) (CE.mono ?_) ?_
  · rintro e w' ⟨v', rfl, h1, h2, _⟩
    obtain ⟨A9, c9, e9, _⟩ := id (Sl.of_own h1)
    subst e9
    exact ⟨A9, c9, rfl, h1, h2⟩
  rintro A2 c2 w2 ⟨hown2, b2⟩
  have S2 := H1.out.1.below b2
  refine ⟨S2.cells, ?_⟩
  have hm2 := H1.out.2.1.below b2
  have B2 := below_tr (below_tr HU.out.2.1 H1.out.2.2.1) b2
  have H2 := Lib.hid (And.intro S2 (And.intro hm2 (And.intro B2 (And.intro hown2 b2))))
  clear S2 hm2 B2 hown2 b2 CE
  simp only [Act.put, List.setIfInBounds_toArray, List.set_cons_zero, List.set_cons_succ, List.getElem_toArray, List.getElem_cons_succ, List.getElem_cons_zero]
  refine earlyL_run (v := .agg #[.int .i64 most, .map (some u0.heap.size), .int .u64 now, .slice A2 evs.length c2]) (w1 := w2) (by rfl) (by rfl) (by go_simp) H2.out.1.cells ?_
  simp only [Act.put, List.setIfInBounds_toArray, List.set_cons_zero, List.set_cons_succ, List.getElem_toArray, List.getElem_cons_succ, List.getElem_cons_zero]
  have k3 := Bk.new w2 85 #[.int .i64 most, .map (some u0.heap.size), .int .u64 now, .slice A2 evs.length c2]
  iterate 2
    refine earlyL_run (v := .pointer (some ⟨w2.heap.size, 0, none⟩)) (w1 := w2.alloc (.cells #[.int .i64 most, .map (some u0.heap.size), .int .u64 now, .slice A2 evs.length c2] 85)) (by rfl) (by rfl) (by go_simp) (H2.out.1.below (below_al w2 _)).cells ?_
    simp only [Act.put, List.setIfInBounds_toArray, List.set_cons_zero, List.set_cons_succ, List.getElem_toArray, List.getElem_cons_succ, List.getElem_cons_zero]
  refine earlyL_nil ?_
  simp only [List.filterMap_nil]
  have HK := Lib.hid k3
  clear k3
  go_wp2_with fail
  go_ret
  obtain ⟨S2, hm2, B2, hown2, b2⟩ := H2.out
  obtain ⟨S1, hm1, b1, hz1⟩ := H1.out
  have hb := hm2.lt
  refine ⟨_, _, _, rfl, ⟨⟨hb, fun e => ?_⟩, HK.out, hm2.below (below_al w2 _), own_below (own_mono hown2 (by omega)) (below_al w2 _)⟩, ?_, below_tr B2 (below_al w2 _)⟩
  · have := (hown2.lt _ e).2
    omega
  · have := HU.out.2.2
    omega
end Go.Proofs.Ytoobjfpkdlffpaa
end
section
namespace Go.Proofs.Mem
open Go Go.RowKit
set_option linter.unusedVariables false
def SeqUps {α : Type} (F : Fence) (n : Nat) (P : Program) (g : Nat) (lb : Array Value) (encs : α → Array Value) (Qi : List α → World → Prop) (Kp : World → World → Prop) (Kn : List α → α → World → Prop) (S : List α → Prop) (w : World) : Prop :=
  ∀ (l : Nat) (J Jx : List α → World → Prop) (W : World), Below w.heap.size w W → AbidesFrom W.heap.size J → AbidesFrom W.heap.size Jx → (∀ pre W1, J pre W1 → Qi pre W1) →
    (∀ pre x W1, J pre W1 → Kn pre x W1 → YieldAt F (n - 1) P l (encs x) W1 fun e W' => (e = .returned (.bool true) ∧ J (pre ++ [x]) W' ∧ Kp W1 W') ∨ (e = .returned (.bool false) ∧ Jx (pre ++ [x]) W' ∧ Kp W1 W')) →
    J [] W → CallsIn F n P g (#[.func (.yield l) #[] #[]] ++ lb) W fun e W' => (∃ v, e = .returned v) ∧ ((∃ xs, S xs ∧ J xs W') ∨ (∃ pre, Jx pre W'))
variable {F : Fence} {n : Nat} {P : Program}
theorem wpIn_rangeFunc_ups {α : Type} {g : Operand} {ps : Array Tmp} {assign body : Code} {Q : Exit → Act → World → Prop} {a : Act} {w : World}
    (hro : F.round = none) (h1 : 1 ≤ n) {gf : Nat} {lb : Array Value} (hg : a.eval g = .func (.func gf) #[] lb) (hFg : F.fn gf) (eg : ∀ args w, (callFunc gf args).run P w = .ok (.enter gf args) w)
    {encs : α → Array Value} {Kp : World → World → Prop} {Kn : List α → α → World → Prop} {S : List α → Prop} {Qi : List α → World → Prop} {w0 : World} (hseq : SeqUps F (n - 1) P gf lb encs Qi Kp Kn S w0)
    (hKt : ∀ {A B C : World}, Kp A B → Kp B C → Kp A C) (hKb : ∀ (W : World) (l : Nat) (o o' : Obj), w.heap.size ≤ l → W.heap[l]? = some o → o.isCells = false → o.isWalk = false → Kp W (W.putObj l o')) (hb0 : Below w0.heap.size w0 w) (hps : ∀ x, (encs x).size = ps.size)
    (I : List α → World → Prop) (Ix : Code → List α → World → Prop) (hI : OwnFrom w.heap.size I) (hIx : ∀ c, OwnFrom w.heap.size (Ix c)) (hIQ : ∀ pre W, I pre W → Qi pre W) (h0 : I [] w) (Ax : List α → α → Act → World → Prop) (hAx : ∀ pre x a', OwnFrom w.heap.size (fun (_ : Unit) W => Ax pre x a' W))
    (hassign : ∀ (l : Nat) (pre : List α) (x : α) (W : World) (K : Act → World → Prop), I pre W → Kn pre x W → (∀ a' W', KeepsFrom w.heap.size W W' → Kp W W' → I pre W' → Ax pre x a' W' → K a' W') →
      assign.wpIn (F.inRound l) (n - 1 - 1) P (Exit.then K (fun _ _ _ => False)) { tmps := (ps.zip (encs x)).foldl (fun t (p, v) => t.setIfInBounds p v) a.tmps, defers := [] } W)
    (hbody : ∀ (l : Nat) (pre : List α) (x : α) (a' : Act) (W : World), w.heap.size ≤ l → (∃ r, W.heap[l]? = some (.loop r)) → I pre W → Ax pre x a' W → body.wpIn (F.inRound l) (n - 1 - 1) P (postKn w.heap.size Kp I Ix (pre ++ [x]) W) a' W)
    (hdone : ∀ (D : Nat) (xs : List α) (W : World), w.heap.size ≤ D → S xs → I xs W → W.heap[D]? = some (.deferred (some [])) → Q .normal { a with defers := { target := .collected D, args := #[] } :: a.defers } W)
    (hstop : ∀ (D : Nat) (c : Code) (pre : List α) (W : World), w.heap.size ≤ D → Ix c pre W → W.heap[D]? = some (.deferred (some [])) → c.wpIn F n P Q { a with defers := { target := .collected D, args := #[] } :: a.defers } W) :
    (Code.rangeFunc g ps assign body).wpIn F n P Q a w := by
  refine wpIn_rangeFunc fun fn hfn => ?_
  rw [hro]
  have hnew := World.alloc_heap_new w (.deferred (some []))
  -- the record of the loop, at a state and a jump
  obtain ⟨rec, hrec⟩ : ∃ rec : LoopState → Option Code → Loop, rec = fun st pe => { state := st, pending := pe, fn, tmps := a.tmps, params := ps, assign, body, defers := w.heap.size } := ⟨_, rfl⟩
  obtain ⟨V, hV⟩ : ∃ V, V = (w.alloc (.deferred (some []))).alloc (.loop (rec .ready none)) := ⟨_, rfl⟩
  obtain ⟨s, hs⟩ : ∃ s, s = w.heap.size := ⟨_, rfl⟩
  have vl : V.heap[s + 1]? = some (.loop (rec .ready none)) := by
    have h := World.alloc_heap_new (w.alloc (.deferred (some []))) (.loop (rec .ready none))
    rw [World.size_alloc] at h
    rw [hV, hs]
    exact h
  have vk : V.heap[s]? = some (.deferred (some [])) := by
    rw [hV, hs]
    exact (Below.heap_alloc _ _ _ (by simp)).trans hnew
  have vI : I [] V := by
    rw [hV]
    exact hI.alloc _ (hI.alloc _ h0)
  have vsz : s ≤ V.heap.size := by
    have := (Array.getElem?_eq_some_iff.1 vk).1
    omega
  have vb : Below w0.heap.size w0 V := by
    rw [hV]
    exact hb0.trans ((((Below.refl _ w).alloc (Nat.le_refl _) _).alloc (by simp) _).mono hb0.size)
  rw [← hs] at hKb hI hIx hAx hassign hbody hdone hstop
  -- turns of walks, at or beyond V: none of the book-keeping's two blocks
  have turn : ∀ {A B : World} {row : Option Nat}, (∀ r, row = some r → V.heap.size ≤ r ∧ ∃ o : Obj, A.heap[r]? = some o ∧ o.isWalk = true) → ∀ r, row = some r → s ≤ r ∧ ∃ o : Obj, A.heap[r]? = some o ∧ o.isCells = false := fun hr r e => by
    obtain ⟨hB, o, ho, hw⟩ := hr r e
    exact ⟨Nat.le_trans vsz hB, o, ho, Obj.not_cells_of_walk hw⟩
  refine ⟨s + 1, [{ target := .collected s, args := #[] }], V, { target := .fn (.func gf) lb, args := #[.func (.yield (s + 1)) #[] #[]] }, V, gf, #[.func (.yield (s + 1)) #[] #[]] ++ lb, V, ?_, ?_, ?_, ?_, fun _ => h1, ?_⟩
  · rw [hV, hs, hrec]
    exact run_enterLoop_outer _ _ _ _ _
  · simp only [resolve, hg]
    simp [go_sem]
  · intro f' hf'
    simp [Target.leads] at hf'
    subst hf'
    exact hFg
  · simp [invoke, go_sem, eg]
  refine (hseq (s + 1) (fun pre W => I pre W ∧ W.heap[s + 1]? = some (.loop (rec .ready none)) ∧ W.heap[s]? = some (.deferred (some [])))
    (fun pre W => ∃ c, Ix c pre W ∧ W.heap[s + 1]? = some (.loop (rec .done (some c))) ∧ W.heap[s]? = some (.deferred (some []))) V vb
    (fun p A B row hp hgr hr => ⟨hI p A B row hp.1 hgr (turn (B := B) hr), (grownBy_keeps hgr (fun r e => (hr r e).2) hp.2.1 rfl).trans hp.2.1, (grownBy_keeps hgr (fun r e => (hr r e).2) hp.2.2 rfl).trans hp.2.2⟩)
    (fun p A B row ⟨c, hc, hl, hk⟩ hgr hr => ⟨c, hIx c p A B row hc hgr (turn (B := B) hr), (grownBy_keeps hgr (fun r e => (hr r e).2) hl rfl).trans hl, (grownBy_keeps hgr (fun r e => (hr r e).2) hk rfl).trans hk⟩)
    (fun pre W1 h => hIQ pre W1 h.1) ?round ⟨vI, vl, vk⟩).mono ?behind
  case round =>
    rintro pre x W ⟨hi, hl, hk⟩ hkn
    have hy := run_yield (P := P) (args := encs x) hl (by rw [hrec]; exact hps x)
    rw [hrec] at hy
    refine ⟨fn, _, assign, body, hy, roundIn_of_wpIn hfn (hassign _ pre x W _ hi hkn fun a' U hku hpu hiu hxu => ?_)⟩
    clear hy
    have ul := hku.same _ _ (by omega) hl rfl
    have uk := hku.same _ _ (Nat.le_refl _) hk rfl
    have ult : s + 1 < U.heap.size := (Array.getElem?_eq_some_iff.1 ul).1
    refine ⟨_, run_beginRound ul (by rw [hrec]), ?_⟩
    obtain ⟨Y, hY⟩ : ∃ Y, Y = U.putObj (s + 1) (.loop { rec .ready none with state := .busy }) := ⟨_, rfl⟩
    have yl : Y.heap[s + 1]? = some (.loop { rec .ready none with state := .busy }) := by rw [hY]; exact World.putObj_heap_same ult
    have yk : Y.heap[s]? = some (.deferred (some [])) := by rw [hY]; exact (World.putObj_heap_other (by omega)).trans uk
    have yw : Kp U Y := by rw [hY]; exact hKb _ _ _ _ (by omega) ul rfl rfl
    have yi : I pre Y := by rw [hY]; exact hI.putObj _ hiu (by omega) ul rfl
    have yx : Ax pre x a' Y := by rw [hY]; exact (hAx pre x a').putObj (s := ()) _ hxu (by omega) ul rfl
    rw [← hY]
    have leave : ∀ (jump : Option Code) (Z : World), KeepsFrom s Y Z →
        (Instr.endRound (s + 1) jump).run P Z = .ok (.bool jump.isNone) (Z.putObj (s + 1) (.loop (rec (if jump.isNone then .ready else .done) jump))) ∧ Z.heap[s + 1]? = some (.loop { rec .ready none with state := .busy }) ∧
        (Z.putObj (s + 1) (.loop (rec (if jump.isNone then .ready else .done) jump))).heap[s + 1]? = some (.loop (rec (if jump.isNone then .ready else .done) jump)) ∧ (Z.putObj (s + 1) (.loop (rec (if jump.isNone then .ready else .done) jump))).heap[s]? = some (.deferred (some [])) := fun jump Z hz => by
      have zl := hz.same _ _ (by omega) yl rfl
      have h := run_endRound (P := P) jump zl
      rw [hrec] at h zl ⊢
      exact ⟨h, zl, World.putObj_heap_same (Array.getElem?_eq_some_iff.1 zl).1, (World.putObj_heap_other (by omega)).trans (hz.same _ _ (Nat.le_refl _) yk rfl)⟩
    refine wpIn_mono (hbody _ pre x a' _ (by omega) ⟨_, yl⟩ yi yx) ?_
    rintro e b Z hp
    cases e with
    | panic ch => exact hp.elim
    | outgrown => exact hp.elim
    | normal =>
      obtain ⟨hz, hkz, hiz⟩ := hp
      obtain ⟨hr, zl, zm, zk⟩ := leave none Z hz
      exact ⟨_, _, hr, .inl ⟨rfl, ⟨hI.putObj _ hiz (by omega) zl rfl, zm, zk⟩, hKt hpu (hKt (hKt yw hkz) (hKb _ _ _ _ (by omega) zl rfl rfl))⟩⟩
    | ret =>
      obtain ⟨hz, hkz, hiz⟩ := hp
      obtain ⟨hr, zl, zm, zk⟩ := leave (some .ret) Z hz
      exact ⟨_, _, hr, .inr ⟨rfl, ⟨.ret, (hIx _).putObj _ hiz (by omega) zl rfl, zm, zk⟩, hKt hpu (hKt (hKt yw hkz) (hKb _ _ _ _ (by omega) zl rfl rfl))⟩⟩
    | exit id =>
      obtain ⟨hz, hkz, hiz⟩ := hp
      obtain ⟨hr, zl, zm, zk⟩ := leave (some (.exit id)) Z hz
      exact ⟨_, _, hr, .inr ⟨rfl, ⟨.exit id, (hIx _).putObj _ hiz (by omega) zl rfl, zm, zk⟩, hKt hpu (hKt (hKt yw hkz) (hKb _ _ _ _ (by omega) zl rfl rfl))⟩⟩
    | goto t =>
      obtain ⟨hz, hkz, hiz⟩ := hp
      obtain ⟨hr, zl, zm, zk⟩ := leave (some (.goto t)) Z hz
      exact ⟨_, _, hr, .inr ⟨rfl, ⟨.goto t, (hIx _).putObj _ hiz (by omega) zl rfl, zm, zk⟩, hKt hpu (hKt (hKt yw hkz) (hKb _ _ _ _ (by omega) zl rfl rfl))⟩⟩
  case behind =>
    rintro e Z ⟨⟨v, rfl⟩, h⟩
    rcases h with ⟨xs, hS, hi, hl, hk⟩ | ⟨pre, c, hi, hl, hk⟩
    · have h := run_endLoop (P := P) hl (by rw [hrec]; simp)
      rw [hrec] at h
      exact ⟨none, _, h, hdone _ xs _ (Nat.le_refl _) hS (hI.putObj _ hi (by omega) hl rfl) ((World.putObj_heap_other (by omega)).trans hk)⟩
    · have h := run_endLoop (P := P) hl (by rw [hrec]; simp)
      rw [hrec] at h
      exact ⟨some c, _, h, hstop _ c pre _ (Nat.le_refl _) ((hIx c).putObj _ hi (by omega) hl rfl) ((World.putObj_heap_other (by omega)).trans hk)⟩
end Go.Proofs.Mem
end
