/-
  The walk of trimtabref06.Object at one kind. (printed by wip/gen_obj.py)
-/
import Derived.Test.YthdjfcfbmmmmcaaRef6d
namespace Go.Proofs.Ythdjfcfbmmmmcaa
open Go.RowKit Go.Proofs.Mem
set_option linter.unusedVariables false
set_option linter.unusedSimpArgs false
set_option maxHeartbeats 4000000 in
set_option maxRecDepth 100000 in
theorem object_pd (o : Ob) (w : World) (hk : o.kind = 1) (ho : o.p.Ok w) (hv : wfi .u64 o.version) (hn : s255 o.name) (hs : pdS o.p) :
    Calls Try.prog 14 #[.agg o.cells.toArray] w fun e w' => e = .returned (.string (objB o)) ∧ Below w.heap.size w w' := by
  obtain ⟨kind, name, version, ⟨w0, w1, w2, w3, w4, w5, w6⟩, ⟨p0, p1, p2, p3, p4, p5, p6, p7, p8, p9⟩, ⟨n0, n1, n2, n3, n4, n5, n6⟩, ⟨g0, g1, g2, g3, g4, g5, g6, g7⟩, ⟨h0, h1, h2, h3, h4, ⟨h5, h6, h7⟩, ⟨h8, h9, h10⟩, h11⟩⟩ := o
  simp only at hk hn hs
  subst hk
  obtain ⟨ver, hver, rfl⟩ := u64_nat hv
  clear hv
  unfold s255 at hn
  obtain ⟨_, _, op2, op3, op4, op5, op6, op7, op8, op9⟩ := ho
  obtain ⟨tp0, tp1, tp6, tp7, tp8⟩ := hs
  simp only at op2 op3 op4 op5 op6 op7 op8 op9 tp0 tp1 tp6 tp7 tp8
  unfold s255 at tp0 tp1
  obtain ⟨p6v, p6l⟩ := p6
  obtain ⟨Ap6, cp6, ep6, _⟩ := id op6.1
  have ep6 : p6v = .slice Ap6 p6l.length cp6 := ep6
  subst ep6
  simp only at op6 tp6
  have Cp6 : Hid (∀ w1, Below w.heap.size w w1 → Calls Try.prog 32 #[.slice Ap6 p6l.length cp6] w1 fun e w' => e = .returned (.string (labsB p6l)) ∧ Below w1.heap.size w1 w') := Lib.hid (fun w1 hb => labels_any ⟨_, p6l⟩ w1 (op6.below hb) tp6)
  clear op6
  obtain ⟨p7v, p7l⟩ := p7
  obtain ⟨Ap7, cp7, ep7, _⟩ := id op7.1
  have ep7 : p7v = .slice Ap7 p7l.length cp7 := ep7
  subst ep7
  simp only at op7 tp7
  have Cp7 : Hid (∀ w1, Below w.heap.size w w1 → Calls Try.prog 33 #[.slice Ap7 p7l.length cp7] w1 fun e w' => e = .returned (.string (reqsB p7l)) ∧ Below w1.heap.size w1 w') := Lib.hid (fun w1 hb => asks_any ⟨_, p7l⟩ w1 (op7.below hb) tp7)
  clear op7
  obtain ⟨p8v, p8l⟩ := p8
  obtain ⟨Ap8, cp8, ep8, _⟩ := id op8.1
  have ep8 : p8v = .slice Ap8 p8l.length cp8 := ep8
  subst ep8
  simp only at op8 tp8
  have Cp8 : Hid (∀ w1, Below w.heap.size w w1 → Calls Try.prog 32 #[.slice Ap8 p8l.length cp8] w1 fun e w' => e = .returned (.string (labsB p8l)) ∧ Below w1.heap.size w1 w') := Lib.hid (fun w1 hb => labels_any ⟨_, p8l⟩ w1 (op8.below hb) tp8)
  clear op8
  obtain ⟨q, hq⟩ : ∃ q, q = objB ⟨1, name, ver, ⟨w0, w1, w2, w3, w4, w5, w6⟩, ⟨p0, p1, p2, p3, p4, p5, ⟨.slice Ap6 p6l.length cp6, p6l⟩, ⟨.slice Ap7 p7l.length cp7, p7l⟩, ⟨.slice Ap8 p8l.length cp8, p8l⟩, p9⟩, ⟨n0, n1, n2, n3, n4, n5, n6⟩, ⟨g0, g1, g2, g3, g4, g5, g6, g7⟩, ⟨h0, h1, h2, h3, h4, ⟨h5, h6, h7⟩, ⟨h8, h9, h10⟩, h11⟩⟩ := ⟨_, rfl⟩
  rw [← hq]
  have HQ : Hid (q = pdB (putB 1 1 ++ textB name ++ putB ver 8) ⟨p0, p1, p2, p3, p4, p5, ⟨.slice Ap6 p6l.length cp6, p6l⟩, ⟨.slice Ap7 p7l.length cp7, p7l⟩, ⟨.slice Ap8 p8l.length cp8, p8l⟩, p9⟩) := Lib.hid (by rw [hq]; rfl)
  clear hq
  simp only [Ob.cells, Wl.cells, Pd.cells, Nd.cells, Gr.cells, Hp.cells, List.cons_append, List.nil_append]
  have qh0 := putB_size 1 1
  have qh1 := textB_size name
  have qh2 := putB_size ver 8
  obtain ⟨sh1, eh1, zh1, kh1⟩ := cat_of (putB 1 1) (textB name) (by omega)
  obtain ⟨sh2, eh2, zh2, kh2⟩ := cat_of sh1 (putB ver 8) (by omega)
  have HSh : Hid (putB 1 1 ++ textB name ++ putB ver 8 = sh2) := Lib.hid (by show putB 1 1 ++ textB name ++ putB ver 8 = _; rw [eh2, eh1])
  have zlh : sh2.size ≤ 300 := by omega
  clear eh1 zh1 eh2 zh2 qh0 qh1 qh2
  have qb0 := textB_size p0
  have qb1 := textB_size p1
  have qb2 := putB_size (u64 p2) 8
  have qb3 := putB_size (u64 p3) 8
  have qb4 := resB_size p4 p5
  have qb5 := labsB_le p6l (by assumption)
  have qb6 := reqsB_le p7l (by assumption)
  have qb7 := labsB_le p8l (by assumption)
  have qb8 := putB_size (u64 p9) 8
  obtain ⟨sb0, eb0, zb0, kb0⟩ := cat_of sh2 (textB p0) (by omega)
  obtain ⟨sb1, eb1, zb1, kb1⟩ := cat_of sb0 (textB p1) (by omega)
  obtain ⟨sb2, eb2, zb2, kb2⟩ := cat_of sb1 (putB (u64 p2) 8) (by omega)
  obtain ⟨sb3, eb3, zb3, kb3⟩ := cat_of sb2 (putB (u64 p3) 8) (by omega)
  obtain ⟨sb4, eb4, zb4, kb4⟩ := cat_of sb3 (resB p4 p5) (by omega)
  obtain ⟨sb5, eb5, zb5, kb5⟩ := cat_of sb4 (labsB p6l) (by omega)
  obtain ⟨sb6, eb6, zb6, kb6⟩ := cat_of sb5 (reqsB p7l) (by omega)
  obtain ⟨sb7, eb7, zb7, kb7⟩ := cat_of sb6 (labsB p8l) (by omega)
  obtain ⟨sb8, eb8, zb8, kb8⟩ := cat_of sb7 (putB (u64 p9) 8) (by omega)
  have HSb : Hid (pdB sh2 ⟨p0, p1, p2, p3, p4, p5, ⟨.slice Ap6 p6l.length cp6, p6l⟩, ⟨.slice Ap7 p7l.length cp7, p7l⟩, ⟨.slice Ap8 p8l.length cp8, p8l⟩, p9⟩ = sb8) := Lib.hid (by show sh2 ++ textB p0 ++ textB p1 ++ putB (u64 p2) 8 ++ putB (u64 p3) 8 ++ resB p4 p5 ++ labsB p6l ++ reqsB p7l ++ labsB p8l ++ putB (u64 p9) 8 = _; rw [eb8, eb7, eb6, eb5, eb4, eb3, eb2, eb1, eb0])
  have zlb : sb8.size ≤ 1000000 := by omega
  clear eb0 zb0 eb1 zb1 eb2 zb2 eb3 zb3 eb4 zb4 eb5 zb5 eb6 zb6 eb7 zb7 eb8 zb8 qb0 qb1 qb2 qb3 qb4 qb5 qb6 qb7 qb8
  have HR : Hid (q = sb8) := Lib.hid (by rw [HQ.out, HSh.out, HSb.out])
  clear HQ HSh HSb zlh zlb
  have hwr : IntKind.u64.wrap (1 : Int) = 1 := by decide
  have HP1 : Hid (∀ w1, Calls Try.prog 28 #[.int .u64 1, .int .i64 1] w1 fun e w' => e = .returned (.string (putB 1 1)) ∧ Below w1.heap.size w1 w') := Lib.hid (fun w1 => put_any 1 1 w1 (by decide) (by decide))
  have HP8 : Hid (∀ w1, Calls Try.prog 28 #[.int .u64 ver, .int .i64 8] w1 fun e w' => e = .returned (.string (putB ver 8)) ∧ Below w1.heap.size w1 w') := Lib.hid (fun w1 => put_any ver 8 w1 hver (by decide))
  clear hver
  go_enter Try.func14, Try.ntmps14
  go_wp2_with fail
  obtain ⟨Wb, hWb⟩ : ∃ Wb, Wb = w.alloc (.cells #[.int .i64 1, .string name, .int .u64 ver, .int .i64 w0, .int .i64 w1, .int .i64 w2, w3.v, w4.v, w5.v, .int .i64 w6, .string p0, .string p1, .int .i64 p2, .int .i64 p3, .int .i64 p4, .int .i64 p5, .slice Ap6 p6l.length cp6, .slice Ap7 p7l.length cp7, .slice Ap8 p8l.length cp8, .int .i64 p9, .string n0, .int .i64 n1, .int .i64 n2, n3.v, n4.v, .int .i64 n5, .bool n6, .int .i64 g0, .int .i64 g1, .int .i64 g2, .int .i64 g3, .int .i64 g4, g5.v, g6.v, .int .i64 g7, .string h0, .int .i64 h1, .int .i64 h2, h3.v, .int .i64 h4, .int .i64 h5, .int .i64 h6, h7.v, .int .i64 h8, .int .i64 h9, h10.v, h11.v] 48) := ⟨_, rfl⟩
  have hkb := Bk.new w 48 #[.int .i64 1, .string name, .int .u64 ver, .int .i64 w0, .int .i64 w1, .int .i64 w2, w3.v, w4.v, w5.v, .int .i64 w6, .string p0, .string p1, .int .i64 p2, .int .i64 p3, .int .i64 p4, .int .i64 p5, .slice Ap6 p6l.length cp6, .slice Ap7 p7l.length cp7, .slice Ap8 p8l.length cp8, .int .i64 p9, .string n0, .int .i64 n1, .int .i64 n2, n3.v, n4.v, .int .i64 n5, .bool n6, .int .i64 g0, .int .i64 g1, .int .i64 g2, .int .i64 g3, .int .i64 g4, g5.v, g6.v, .int .i64 g7, .string h0, .int .i64 h1, .int .i64 h2, h3.v, .int .i64 h4, .int .i64 h5, .int .i64 h6, h7.v, .int .i64 h8, .int .i64 h9, h10.v, h11.v]
  have hBb : Below w.heap.size w Wb := by rw [hWb]; exact below_al _ _
  rw [← hWb] at hkb ⊢
  have bc0 : Wb.cell? ⟨w.heap.size, 0, none⟩ = some (.int .i64 1) := hkb.cell 0
  have bc1 : Wb.cell? ⟨w.heap.size, 1, none⟩ = some (.string name) := hkb.cell 1
  have bc2 : Wb.cell? ⟨w.heap.size, 2, none⟩ = some (.int .u64 ver) := hkb.cell 2
  have bc10 : Wb.cell? ⟨w.heap.size, 10, none⟩ = some (.string p0) := hkb.cell 10
  have bc11 : Wb.cell? ⟨w.heap.size, 11, none⟩ = some (.string p1) := hkb.cell 11
  have bc12 : Wb.cell? ⟨w.heap.size, 12, none⟩ = some (.int .i64 p2) := hkb.cell 12
  have bc13 : Wb.cell? ⟨w.heap.size, 13, none⟩ = some (.int .i64 p3) := hkb.cell 13
  have bc14 : Wb.cell? ⟨w.heap.size, 14, none⟩ = some (.int .i64 p4) := hkb.cell 14
  have bc15 : Wb.cell? ⟨w.heap.size, 15, none⟩ = some (.int .i64 p5) := hkb.cell 15
  have bc16 : Wb.cell? ⟨w.heap.size, 16, none⟩ = some (.slice Ap6 p6l.length cp6) := hkb.cell 16
  have bc17 : Wb.cell? ⟨w.heap.size, 17, none⟩ = some (.slice Ap7 p7l.length cp7) := hkb.cell 17
  have bc18 : Wb.cell? ⟨w.heap.size, 18, none⟩ = some (.slice Ap8 p8l.length cp8) := hkb.cell 18
  have bc19 : Wb.cell? ⟨w.heap.size, 19, none⟩ = some (.int .i64 p9) := hkb.cell 19
  clear hWb hkb
  go_region_held3 (fun w' => w'.cell? ⟨w.heap.size, 0, none⟩ = some (.int .i64 1) ∧ w'.cell? ⟨w.heap.size, 1, none⟩ = some (.string name) ∧ w'.cell? ⟨w.heap.size, 2, none⟩ = some (.int .u64 ver) ∧ Below Wb.heap.size Wb w')
    (first | (have hB9 := below_tr (by assumption : _ ∧ _ ∧ _ ∧ Below Wb.heap.size Wb _).2.2.2 hb'; exact ⟨keep_cell hB9 bc0, keep_cell hB9 bc1, keep_cell hB9 bc2, hB9⟩) | (exact ⟨bc0, bc1, bc2, (Below.refl _ _).drew⟩)) (first
    | (go_at_call 28; ((with_reducible refine (HP1.out _).mono ?_); rintro e w' ⟨rfl, hb'⟩))
    | (go_at_call 29; refine (text_any _ _ (by assumption)).mono ?_; rintro e w' ⟨rfl, hb'⟩)
    | (go_at_call 28; ((with_reducible refine (HP8.out _).mono ?_); rintro e w' ⟨rfl, hb'⟩)))
  have hBz := (by assumption : _ ∧ _ ∧ _ ∧ Below Wb.heap.size Wb _).2.2.2
  obtain ⟨W1, hW1⟩ : ∃ W1, W1 = w' := ⟨_, rfl⟩
  subst hW1
  have hB1 := hBb.trans (hBz.mono hBb.size)
  have d0 := keep_cell hBz bc0
  have d10 := keep_cell hBz bc10
  have d11 := keep_cell hBz bc11
  have d12 := keep_cell hBz bc12
  have d13 := keep_cell hBz bc13
  have d14 := keep_cell hBz bc14
  have d15 := keep_cell hBz bc15
  have d16 := keep_cell hBz bc16
  have d17 := keep_cell hBz bc17
  have d18 := keep_cell hBz bc18
  have d19 := keep_cell hBz bc19
  clear hwr hBz hBb HP1 HP8 bc0 bc1 bc2 bc10 bc11 bc12 bc13 bc14 bc15 bc16 bc17 bc18 bc19
  go_wp2_with fail
  obtain ⟨W0, hW0⟩ : ∃ W0, W0 = W1.alloc (.cells #[.string p0, .string p1, .int .i64 p2, .int .i64 p3, .int .i64 p4, .int .i64 p5, .slice Ap6 p6l.length cp6, .slice Ap7 p7l.length cp7, .slice Ap8 p8l.length cp8, .int .i64 p9] 35) := ⟨_, rfl⟩
  have hk0 := Bk.new W1 35 #[.string p0, .string p1, .int .i64 p2, .int .i64 p3, .int .i64 p4, .int .i64 p5, .slice Ap6 p6l.length cp6, .slice Ap7 p7l.length cp7, .slice Ap8 p8l.length cp8, .int .i64 p9]
  have hA0 : Below W1.heap.size W1 W0 := by rw [hW0]; exact below_al _ _
  have hB0 : Below w.heap.size w W0 := hB1.trans (hA0.mono hB1.size)
  rw [← hW0] at hk0 ⊢
  have c0 : W0.cell? ⟨W1.heap.size, 0, none⟩ = some (.string p0) := hk0.cell 0
  have c1 : W0.cell? ⟨W1.heap.size, 1, none⟩ = some (.string p1) := hk0.cell 1
  have c2 : W0.cell? ⟨W1.heap.size, 2, none⟩ = some (.int .i64 p2) := hk0.cell 2
  have c3 : W0.cell? ⟨W1.heap.size, 3, none⟩ = some (.int .i64 p3) := hk0.cell 3
  have c4 : W0.cell? ⟨W1.heap.size, 4, none⟩ = some (.int .i64 p4) := hk0.cell 4
  have c5 : W0.cell? ⟨W1.heap.size, 5, none⟩ = some (.int .i64 p5) := hk0.cell 5
  have c6 : W0.cell? ⟨W1.heap.size, 6, none⟩ = some (.slice Ap6 p6l.length cp6) := hk0.cell 6
  have c7 : W0.cell? ⟨W1.heap.size, 7, none⟩ = some (.slice Ap7 p7l.length cp7) := hk0.cell 7
  have c8 : W0.cell? ⟨W1.heap.size, 8, none⟩ = some (.slice Ap8 p8l.length cp8) := hk0.cell 8
  have c9 : W0.cell? ⟨W1.heap.size, 9, none⟩ = some (.int .i64 p9) := hk0.cell 9
  clear hW0 hk0 hA0 d0 d10 d11 d12 d13 d14 d15 d16 d17 d18 d19
  go_region_held3 (fun w' => w'.cell? ⟨W1.heap.size, 0, none⟩ = some (.string p0) ∧ w'.cell? ⟨W1.heap.size, 1, none⟩ = some (.string p1) ∧ w'.cell? ⟨W1.heap.size, 2, none⟩ = some (.int .i64 p2) ∧ w'.cell? ⟨W1.heap.size, 3, none⟩ = some (.int .i64 p3) ∧ w'.cell? ⟨W1.heap.size, 4, none⟩ = some (.int .i64 p4) ∧ w'.cell? ⟨W1.heap.size, 5, none⟩ = some (.int .i64 p5) ∧ w'.cell? ⟨W1.heap.size, 6, none⟩ = some (.slice Ap6 p6l.length cp6) ∧ w'.cell? ⟨W1.heap.size, 7, none⟩ = some (.slice Ap7 p7l.length cp7) ∧ w'.cell? ⟨W1.heap.size, 8, none⟩ = some (.slice Ap8 p8l.length cp8) ∧ w'.cell? ⟨W1.heap.size, 9, none⟩ = some (.int .i64 p9) ∧ Below W0.heap.size W0 w')
    (first | (have hB9 := below_tr (by assumption : _ ∧ _ ∧ _ ∧ _ ∧ _ ∧ _ ∧ _ ∧ _ ∧ _ ∧ _ ∧ Below W0.heap.size W0 _).2.2.2.2.2.2.2.2.2.2 hb'; exact ⟨keep_cell hB9 c0, keep_cell hB9 c1, keep_cell hB9 c2, keep_cell hB9 c3, keep_cell hB9 c4, keep_cell hB9 c5, keep_cell hB9 c6, keep_cell hB9 c7, keep_cell hB9 c8, keep_cell hB9 c9, hB9⟩) | (exact ⟨c0, c1, c2, c3, c4, c5, c6, c7, c8, c9, (Below.refl _ _).drew⟩)) (first
    | (go_at_call 29; refine (text_any _ _ (by assumption)).mono ?_; rintro e w' ⟨rfl, hb'⟩)
    | (go_at_call 30; refine (int_any _ _ (by assumption)).mono ?_; rintro e w' ⟨rfl, hb'⟩)
    | (go_at_call 31; refine (resources_any _ _ _ (by assumption) (by assumption)).mono ?_; rintro e w' ⟨rfl, hb'⟩)
    | (go_at_call 32; ((with_reducible refine (Cp6.out _ (below_tr hB0 (by assumption : _ ∧ _ ∧ _ ∧ _ ∧ _ ∧ _ ∧ _ ∧ _ ∧ _ ∧ _ ∧ Below W0.heap.size W0 _).2.2.2.2.2.2.2.2.2.2)).mono ?_); rintro e w' ⟨rfl, hb'⟩))
    | (go_at_call 33; ((with_reducible refine (Cp7.out _ (below_tr hB0 (by assumption : _ ∧ _ ∧ _ ∧ _ ∧ _ ∧ _ ∧ _ ∧ _ ∧ _ ∧ _ ∧ Below W0.heap.size W0 _).2.2.2.2.2.2.2.2.2.2)).mono ?_); rintro e w' ⟨rfl, hb'⟩))
    | (go_at_call 32; ((with_reducible refine (Cp8.out _ (below_tr hB0 (by assumption : _ ∧ _ ∧ _ ∧ _ ∧ _ ∧ _ ∧ _ ∧ _ ∧ _ ∧ _ ∧ Below W0.heap.size W0 _).2.2.2.2.2.2.2.2.2.2)).mono ?_); rintro e w' ⟨rfl, hb'⟩)))
  have hBy := (by assumption : _ ∧ _ ∧ _ ∧ _ ∧ _ ∧ _ ∧ _ ∧ _ ∧ _ ∧ _ ∧ Below W0.heap.size W0 _).2.2.2.2.2.2.2.2.2.2
  go_wp2_with fail
  go_ret
  exact ⟨by rw [HR.out]; rfl, hB0.trans (hBy.mono hB0.size)⟩
end Go.Proofs.Ythdjfcfbmmmmcaa
