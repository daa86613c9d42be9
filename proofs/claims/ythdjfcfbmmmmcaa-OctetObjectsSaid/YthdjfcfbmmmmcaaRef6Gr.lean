/-
  The walk of trimtabref06.Object at one kind. (printed by wip/gen_obj.py)
-/
import Derived.Test.YthdjfcfbmmmmcaaRef6d
namespace Go.Proofs.Ythdjfcfbmmmmcaa
open Go.RowKit Go.Proofs.Mem
set_option linter.unusedVariables false
set_option linter.unusedSimpArgs false
set_option maxHeartbeats 4000000 in
set_option maxRecDepth 100000 in
theorem object_gr (o : Ob) (w : World) (hk : o.kind = 3) (ho : o.g.Ok w) (hv : wfi .u64 o.version) (hn : s255 o.name) (hs : grS o.g) :
    Calls Try.prog 14 #[.agg o.cells.toArray] w fun e w' => e = .returned (.string (objB o)) ∧ Below w.heap.size w w' := by
  obtain ⟨kind, name, version, ⟨w0, w1, w2, w3, w4, w5, w6⟩, ⟨p0, p1, p2, p3, p4, p5, p6, p7, p8, p9⟩, ⟨n0, n1, n2, n3, n4, n5, n6⟩, ⟨g0, g1, g2, g3, g4, g5, g6, g7⟩, ⟨h0, h1, h2, h3, h4, ⟨h5, h6, h7⟩, ⟨h8, h9, h10⟩, h11⟩⟩ := o
  simp only at hk hn hs
  subst hk
  obtain ⟨ver, hver, rfl⟩ := u64_nat hv
  clear hv
  unfold s255 at hn
  obtain ⟨og0, og1, og2, og3, og4, og5, og6, og7⟩ := ho
  obtain ⟨tg5, tg6⟩ := hs
  simp only at og0 og1 og2 og3 og4 og5 og6 og7 tg5 tg6
  obtain ⟨g5v, g5l⟩ := g5
  obtain ⟨Ag5, cg5, eg5, _⟩ := id og5.1
  have eg5 : g5v = .slice Ag5 g5l.length cg5 := eg5
  subst eg5
  simp only at og5 tg5
  have Cg5 : Hid (∀ w1, Below w.heap.size w w1 → Calls Try.prog 32 #[.slice Ag5 g5l.length cg5] w1 fun e w' => e = .returned (.string (labsB g5l)) ∧ Below w1.heap.size w1 w') := Lib.hid (fun w1 hb => labels_any ⟨_, g5l⟩ w1 (og5.below hb) tg5)
  clear og5
  obtain ⟨g6v, g6l⟩ := g6
  obtain ⟨Ag6, cg6, eg6, _⟩ := id og6.1
  have eg6 : g6v = .slice Ag6 g6l.length cg6 := eg6
  subst eg6
  simp only at og6 tg6
  have Cg6 : Hid (∀ w1, Below w.heap.size w w1 → Calls Try.prog 32 #[.slice Ag6 g6l.length cg6] w1 fun e w' => e = .returned (.string (labsB g6l)) ∧ Below w1.heap.size w1 w') := Lib.hid (fun w1 hb => labels_any ⟨_, g6l⟩ w1 (og6.below hb) tg6)
  clear og6
  obtain ⟨q, hq⟩ : ∃ q, q = objB ⟨3, name, ver, ⟨w0, w1, w2, w3, w4, w5, w6⟩, ⟨p0, p1, p2, p3, p4, p5, p6, p7, p8, p9⟩, ⟨n0, n1, n2, n3, n4, n5, n6⟩, ⟨g0, g1, g2, g3, g4, ⟨.slice Ag5 g5l.length cg5, g5l⟩, ⟨.slice Ag6 g6l.length cg6, g6l⟩, g7⟩, ⟨h0, h1, h2, h3, h4, ⟨h5, h6, h7⟩, ⟨h8, h9, h10⟩, h11⟩⟩ := ⟨_, rfl⟩
  rw [← hq]
  have HQ : Hid (q = grB (putB 3 1 ++ textB name ++ putB ver 8) ⟨g0, g1, g2, g3, g4, ⟨.slice Ag5 g5l.length cg5, g5l⟩, ⟨.slice Ag6 g6l.length cg6, g6l⟩, g7⟩) := Lib.hid (by rw [hq]; rfl)
  clear hq
  simp only [Ob.cells, Wl.cells, Pd.cells, Nd.cells, Gr.cells, Hp.cells, List.cons_append, List.nil_append]
  have qh0 := putB_size 3 1
  have qh1 := textB_size name
  have qh2 := putB_size ver 8
  obtain ⟨sh1, eh1, zh1, kh1⟩ := cat_of (putB 3 1) (textB name) (by omega)
  obtain ⟨sh2, eh2, zh2, kh2⟩ := cat_of sh1 (putB ver 8) (by omega)
  have HSh : Hid (putB 3 1 ++ textB name ++ putB ver 8 = sh2) := Lib.hid (by show putB 3 1 ++ textB name ++ putB ver 8 = _; rw [eh2, eh1])
  have zlh : sh2.size ≤ 300 := by omega
  clear eh1 zh1 eh2 zh2 qh0 qh1 qh2
  have qb0 := putB_size (u64 g0) 8
  have qb1 := putB_size (u64 g1) 8
  have qb2 := putB_size (u64 g2) 8
  have qb3 := resB_size g3 g4
  have qb4 := labsB_le g5l (by assumption)
  have qb5 := labsB_le g6l (by assumption)
  have qb6 := putB_size (u64 g7) 8
  obtain ⟨sb0, eb0, zb0, kb0⟩ := cat_of sh2 (putB (u64 g0) 8) (by omega)
  obtain ⟨sb1, eb1, zb1, kb1⟩ := cat_of sb0 (putB (u64 g1) 8) (by omega)
  obtain ⟨sb2, eb2, zb2, kb2⟩ := cat_of sb1 (putB (u64 g2) 8) (by omega)
  obtain ⟨sb3, eb3, zb3, kb3⟩ := cat_of sb2 (resB g3 g4) (by omega)
  obtain ⟨sb4, eb4, zb4, kb4⟩ := cat_of sb3 (labsB g5l) (by omega)
  obtain ⟨sb5, eb5, zb5, kb5⟩ := cat_of sb4 (labsB g6l) (by omega)
  obtain ⟨sb6, eb6, zb6, kb6⟩ := cat_of sb5 (putB (u64 g7) 8) (by omega)
  have HSb : Hid (grB sh2 ⟨g0, g1, g2, g3, g4, ⟨.slice Ag5 g5l.length cg5, g5l⟩, ⟨.slice Ag6 g6l.length cg6, g6l⟩, g7⟩ = sb6) := Lib.hid (by show sh2 ++ putB (u64 g0) 8 ++ putB (u64 g1) 8 ++ putB (u64 g2) 8 ++ resB g3 g4 ++ labsB g5l ++ labsB g6l ++ putB (u64 g7) 8 = _; rw [eb6, eb5, eb4, eb3, eb2, eb1, eb0])
  have zlb : sb6.size ≤ 1000000 := by omega
  clear eb0 zb0 eb1 zb1 eb2 zb2 eb3 zb3 eb4 zb4 eb5 zb5 eb6 zb6 qb0 qb1 qb2 qb3 qb4 qb5 qb6
  have HR : Hid (q = sb6) := Lib.hid (by rw [HQ.out, HSh.out, HSb.out])
  clear HQ HSh HSb zlh zlb
  have hwr : IntKind.u64.wrap (3 : Int) = 3 := by decide
  have HP1 : Hid (∀ w1, Calls Try.prog 28 #[.int .u64 3, .int .i64 1] w1 fun e w' => e = .returned (.string (putB 3 1)) ∧ Below w1.heap.size w1 w') := Lib.hid (fun w1 => put_any 3 1 w1 (by decide) (by decide))
  have HP8 : Hid (∀ w1, Calls Try.prog 28 #[.int .u64 ver, .int .i64 8] w1 fun e w' => e = .returned (.string (putB ver 8)) ∧ Below w1.heap.size w1 w') := Lib.hid (fun w1 => put_any ver 8 w1 hver (by decide))
  clear hver
  go_enter Try.func14, Try.ntmps14
  go_wp2_with fail
  obtain ⟨Wb, hWb⟩ : ∃ Wb, Wb = w.alloc (.cells #[.int .i64 3, .string name, .int .u64 ver, .int .i64 w0, .int .i64 w1, .int .i64 w2, w3.v, w4.v, w5.v, .int .i64 w6, .string p0, .string p1, .int .i64 p2, .int .i64 p3, .int .i64 p4, .int .i64 p5, p6.v, p7.v, p8.v, .int .i64 p9, .string n0, .int .i64 n1, .int .i64 n2, n3.v, n4.v, .int .i64 n5, .bool n6, .int .i64 g0, .int .i64 g1, .int .i64 g2, .int .i64 g3, .int .i64 g4, .slice Ag5 g5l.length cg5, .slice Ag6 g6l.length cg6, .int .i64 g7, .string h0, .int .i64 h1, .int .i64 h2, h3.v, .int .i64 h4, .int .i64 h5, .int .i64 h6, h7.v, .int .i64 h8, .int .i64 h9, h10.v, h11.v] 48) := ⟨_, rfl⟩
  have hkb := Bk.new w 48 #[.int .i64 3, .string name, .int .u64 ver, .int .i64 w0, .int .i64 w1, .int .i64 w2, w3.v, w4.v, w5.v, .int .i64 w6, .string p0, .string p1, .int .i64 p2, .int .i64 p3, .int .i64 p4, .int .i64 p5, p6.v, p7.v, p8.v, .int .i64 p9, .string n0, .int .i64 n1, .int .i64 n2, n3.v, n4.v, .int .i64 n5, .bool n6, .int .i64 g0, .int .i64 g1, .int .i64 g2, .int .i64 g3, .int .i64 g4, .slice Ag5 g5l.length cg5, .slice Ag6 g6l.length cg6, .int .i64 g7, .string h0, .int .i64 h1, .int .i64 h2, h3.v, .int .i64 h4, .int .i64 h5, .int .i64 h6, h7.v, .int .i64 h8, .int .i64 h9, h10.v, h11.v]
  have hBb : Below w.heap.size w Wb := by rw [hWb]; exact below_al _ _
  rw [← hWb] at hkb ⊢
  have bc0 : Wb.cell? ⟨w.heap.size, 0, none⟩ = some (.int .i64 3) := hkb.cell 0
  have bc1 : Wb.cell? ⟨w.heap.size, 1, none⟩ = some (.string name) := hkb.cell 1
  have bc2 : Wb.cell? ⟨w.heap.size, 2, none⟩ = some (.int .u64 ver) := hkb.cell 2
  have bc27 : Wb.cell? ⟨w.heap.size, 27, none⟩ = some (.int .i64 g0) := hkb.cell 27
  have bc28 : Wb.cell? ⟨w.heap.size, 28, none⟩ = some (.int .i64 g1) := hkb.cell 28
  have bc29 : Wb.cell? ⟨w.heap.size, 29, none⟩ = some (.int .i64 g2) := hkb.cell 29
  have bc30 : Wb.cell? ⟨w.heap.size, 30, none⟩ = some (.int .i64 g3) := hkb.cell 30
  have bc31 : Wb.cell? ⟨w.heap.size, 31, none⟩ = some (.int .i64 g4) := hkb.cell 31
  have bc32 : Wb.cell? ⟨w.heap.size, 32, none⟩ = some (.slice Ag5 g5l.length cg5) := hkb.cell 32
  have bc33 : Wb.cell? ⟨w.heap.size, 33, none⟩ = some (.slice Ag6 g6l.length cg6) := hkb.cell 33
  have bc34 : Wb.cell? ⟨w.heap.size, 34, none⟩ = some (.int .i64 g7) := hkb.cell 34
  clear hWb hkb
  go_region_held3 (fun w' => w'.cell? ⟨w.heap.size, 0, none⟩ = some (.int .i64 3) ∧ w'.cell? ⟨w.heap.size, 1, none⟩ = some (.string name) ∧ w'.cell? ⟨w.heap.size, 2, none⟩ = some (.int .u64 ver) ∧ Below Wb.heap.size Wb w')
    (first | (have hB9 := below_tr (by assumption : _ ∧ _ ∧ _ ∧ Below Wb.heap.size Wb _).2.2.2 hb'; exact ⟨keep_cell hB9 bc0, keep_cell hB9 bc1, keep_cell hB9 bc2, hB9⟩) | (exact ⟨bc0, bc1, bc2, (Below.refl _ _).drew⟩)) (first
    | (go_at_call 28; ((with_reducible refine (HP1.out _).mono ?_); rintro e w' ⟨rfl, hb'⟩))
    | (go_at_call 29; refine (text_any _ _ (by assumption)).mono ?_; rintro e w' ⟨rfl, hb'⟩)
    | (go_at_call 28; ((with_reducible refine (HP8.out _).mono ?_); rintro e w' ⟨rfl, hb'⟩)))
  have hBz := (by assumption : _ ∧ _ ∧ _ ∧ Below Wb.heap.size Wb _).2.2.2
  obtain ⟨W1, hW1⟩ : ∃ W1, W1 = w' := ⟨_, rfl⟩
  subst hW1
  have hB1 := hBb.trans (hBz.mono hBb.size)
  have d0 := keep_cell hBz bc0
  have d27 := keep_cell hBz bc27
  have d28 := keep_cell hBz bc28
  have d29 := keep_cell hBz bc29
  have d30 := keep_cell hBz bc30
  have d31 := keep_cell hBz bc31
  have d32 := keep_cell hBz bc32
  have d33 := keep_cell hBz bc33
  have d34 := keep_cell hBz bc34
  clear hwr hBz hBb HP1 HP8 bc0 bc1 bc2 bc27 bc28 bc29 bc30 bc31 bc32 bc33 bc34
  go_wp2_with fail
  obtain ⟨W0, hW0⟩ : ∃ W0, W0 = W1.alloc (.cells #[.int .i64 g0, .int .i64 g1, .int .i64 g2, .int .i64 g3, .int .i64 g4, .slice Ag5 g5l.length cg5, .slice Ag6 g6l.length cg6, .int .i64 g7] 39) := ⟨_, rfl⟩
  have hk0 := Bk.new W1 39 #[.int .i64 g0, .int .i64 g1, .int .i64 g2, .int .i64 g3, .int .i64 g4, .slice Ag5 g5l.length cg5, .slice Ag6 g6l.length cg6, .int .i64 g7]
  have hA0 : Below W1.heap.size W1 W0 := by rw [hW0]; exact below_al _ _
  have hB0 : Below w.heap.size w W0 := hB1.trans (hA0.mono hB1.size)
  rw [← hW0] at hk0 ⊢
  have c0 : W0.cell? ⟨W1.heap.size, 0, none⟩ = some (.int .i64 g0) := hk0.cell 0
  have c1 : W0.cell? ⟨W1.heap.size, 1, none⟩ = some (.int .i64 g1) := hk0.cell 1
  have c2 : W0.cell? ⟨W1.heap.size, 2, none⟩ = some (.int .i64 g2) := hk0.cell 2
  have c3 : W0.cell? ⟨W1.heap.size, 3, none⟩ = some (.int .i64 g3) := hk0.cell 3
  have c4 : W0.cell? ⟨W1.heap.size, 4, none⟩ = some (.int .i64 g4) := hk0.cell 4
  have c5 : W0.cell? ⟨W1.heap.size, 5, none⟩ = some (.slice Ag5 g5l.length cg5) := hk0.cell 5
  have c6 : W0.cell? ⟨W1.heap.size, 6, none⟩ = some (.slice Ag6 g6l.length cg6) := hk0.cell 6
  have c7 : W0.cell? ⟨W1.heap.size, 7, none⟩ = some (.int .i64 g7) := hk0.cell 7
  clear hW0 hk0 hA0 d0 d27 d28 d29 d30 d31 d32 d33 d34
  go_region_held3 (fun w' => w'.cell? ⟨W1.heap.size, 0, none⟩ = some (.int .i64 g0) ∧ w'.cell? ⟨W1.heap.size, 1, none⟩ = some (.int .i64 g1) ∧ w'.cell? ⟨W1.heap.size, 2, none⟩ = some (.int .i64 g2) ∧ w'.cell? ⟨W1.heap.size, 3, none⟩ = some (.int .i64 g3) ∧ w'.cell? ⟨W1.heap.size, 4, none⟩ = some (.int .i64 g4) ∧ w'.cell? ⟨W1.heap.size, 5, none⟩ = some (.slice Ag5 g5l.length cg5) ∧ w'.cell? ⟨W1.heap.size, 6, none⟩ = some (.slice Ag6 g6l.length cg6) ∧ w'.cell? ⟨W1.heap.size, 7, none⟩ = some (.int .i64 g7) ∧ Below W0.heap.size W0 w')
    (first | (have hB9 := below_tr (by assumption : _ ∧ _ ∧ _ ∧ _ ∧ _ ∧ _ ∧ _ ∧ _ ∧ Below W0.heap.size W0 _).2.2.2.2.2.2.2.2 hb'; exact ⟨keep_cell hB9 c0, keep_cell hB9 c1, keep_cell hB9 c2, keep_cell hB9 c3, keep_cell hB9 c4, keep_cell hB9 c5, keep_cell hB9 c6, keep_cell hB9 c7, hB9⟩) | (exact ⟨c0, c1, c2, c3, c4, c5, c6, c7, (Below.refl _ _).drew⟩)) (first
    | (go_at_call 30; refine (int_any _ _ (by assumption)).mono ?_; rintro e w' ⟨rfl, hb'⟩)
    | (go_at_call 31; refine (resources_any _ _ _ (by assumption) (by assumption)).mono ?_; rintro e w' ⟨rfl, hb'⟩)
    | (go_at_call 32; ((with_reducible refine (Cg5.out _ (below_tr hB0 (by assumption : _ ∧ _ ∧ _ ∧ _ ∧ _ ∧ _ ∧ _ ∧ _ ∧ Below W0.heap.size W0 _).2.2.2.2.2.2.2.2)).mono ?_); rintro e w' ⟨rfl, hb'⟩))
    | (go_at_call 32; ((with_reducible refine (Cg6.out _ (below_tr hB0 (by assumption : _ ∧ _ ∧ _ ∧ _ ∧ _ ∧ _ ∧ _ ∧ _ ∧ Below W0.heap.size W0 _).2.2.2.2.2.2.2.2)).mono ?_); rintro e w' ⟨rfl, hb'⟩)))
  have hBy := (by assumption : _ ∧ _ ∧ _ ∧ _ ∧ _ ∧ _ ∧ _ ∧ _ ∧ Below W0.heap.size W0 _).2.2.2.2.2.2.2.2
  go_wp2_with fail
  go_ret
  exact ⟨by rw [HR.out]; rfl, hB0.trans (hBy.mono hB0.size)⟩
end Go.Proofs.Ythdjfcfbmmmmcaa
