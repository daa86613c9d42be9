/-
  The walk of trimtabref06.Object at one kind. (printed by wip/gen_obj.py)
-/
import Derived.Test.YthdjfcfbmmmmcaaRef6d
namespace Go.Proofs.Ythdjfcfbmmmmcaa
open Go.RowKit Go.Proofs.Mem
set_option linter.unusedVariables false
set_option linter.unusedSimpArgs false
set_option maxHeartbeats 4000000 in
set_option maxRecDepth 100000 in
theorem object_wl (o : Ob) (w : World) (hk : o.kind = 0) (ho : o.w.Ok w) (hv : wfi .u64 o.version) (hn : s255 o.name) (hs : wlS o.w) :
    Calls Try.prog 14 #[.agg o.cells.toArray] w fun e w' => e = .returned (.string (objB o)) ∧ Below w.heap.size w w' := by
  obtain ⟨kind, name, version, ⟨w0, w1, w2, w3, w4, w5, w6⟩, ⟨p0, p1, p2, p3, p4, p5, p6, p7, p8, p9⟩, ⟨n0, n1, n2, n3, n4, n5, n6⟩, ⟨g0, g1, g2, g3, g4, g5, g6, g7⟩, ⟨h0, h1, h2, h3, h4, ⟨h5, h6, h7⟩, ⟨h8, h9, h10⟩, h11⟩⟩ := o
  simp only at hk hn hs
  subst hk
  obtain ⟨ver, hver, rfl⟩ := u64_nat hv
  clear hv
  unfold s255 at hn
  obtain ⟨ow0, ow1, ow2, ow3, ow4, ow5, ow6⟩ := ho
  obtain ⟨tw3, tw4, tw5⟩ := hs
  simp only at ow0 ow1 ow2 ow3 ow4 ow5 ow6 tw3 tw4 tw5
  obtain ⟨w3v, w3l⟩ := w3
  obtain ⟨Aw3, cw3, ew3, _⟩ := id ow3.1
  have ew3 : w3v = .slice Aw3 w3l.length cw3 := ew3
  subst ew3
  simp only at ow3 tw3
  have Cw3 : Hid (∀ w1, Below w.heap.size w w1 → Calls Try.prog 32 #[.slice Aw3 w3l.length cw3] w1 fun e w' => e = .returned (.string (labsB w3l)) ∧ Below w1.heap.size w1 w') := Lib.hid (fun w1 hb => labels_any ⟨_, w3l⟩ w1 (ow3.below hb) tw3)
  clear ow3
  obtain ⟨w4v, w4l⟩ := w4
  obtain ⟨Aw4, cw4, ew4, _⟩ := id ow4.1
  have ew4 : w4v = .slice Aw4 w4l.length cw4 := ew4
  subst ew4
  simp only at ow4 tw4
  have Cw4 : Hid (∀ w1, Below w.heap.size w w1 → Calls Try.prog 33 #[.slice Aw4 w4l.length cw4] w1 fun e w' => e = .returned (.string (reqsB w4l)) ∧ Below w1.heap.size w1 w') := Lib.hid (fun w1 hb => asks_any ⟨_, w4l⟩ w1 (ow4.below hb) tw4)
  clear ow4
  obtain ⟨w5v, w5l⟩ := w5
  obtain ⟨Aw5, cw5, ew5, _⟩ := id ow5.1
  have ew5 : w5v = .slice Aw5 w5l.length cw5 := ew5
  subst ew5
  simp only at ow5 tw5
  have Cw5 : Hid (∀ w1, Below w.heap.size w w1 → Calls Try.prog 32 #[.slice Aw5 w5l.length cw5] w1 fun e w' => e = .returned (.string (labsB w5l)) ∧ Below w1.heap.size w1 w') := Lib.hid (fun w1 hb => labels_any ⟨_, w5l⟩ w1 (ow5.below hb) tw5)
  clear ow5
  obtain ⟨q, hq⟩ : ∃ q, q = objB ⟨0, name, ver, ⟨w0, w1, w2, ⟨.slice Aw3 w3l.length cw3, w3l⟩, ⟨.slice Aw4 w4l.length cw4, w4l⟩, ⟨.slice Aw5 w5l.length cw5, w5l⟩, w6⟩, ⟨p0, p1, p2, p3, p4, p5, p6, p7, p8, p9⟩, ⟨n0, n1, n2, n3, n4, n5, n6⟩, ⟨g0, g1, g2, g3, g4, g5, g6, g7⟩, ⟨h0, h1, h2, h3, h4, ⟨h5, h6, h7⟩, ⟨h8, h9, h10⟩, h11⟩⟩ := ⟨_, rfl⟩
  rw [← hq]
  have HQ : Hid (q = wlB (putB 0 1 ++ textB name ++ putB ver 8) ⟨w0, w1, w2, ⟨.slice Aw3 w3l.length cw3, w3l⟩, ⟨.slice Aw4 w4l.length cw4, w4l⟩, ⟨.slice Aw5 w5l.length cw5, w5l⟩, w6⟩) := Lib.hid (by rw [hq]; rfl)
  clear hq
  simp only [Ob.cells, Wl.cells, Pd.cells, Nd.cells, Gr.cells, Hp.cells, List.cons_append, List.nil_append]
  have qh0 := putB_size 0 1
  have qh1 := textB_size name
  have qh2 := putB_size ver 8
  obtain ⟨sh1, eh1, zh1, kh1⟩ := cat_of (putB 0 1) (textB name) (by omega)
  obtain ⟨sh2, eh2, zh2, kh2⟩ := cat_of sh1 (putB ver 8) (by omega)
  have HSh : Hid (putB 0 1 ++ textB name ++ putB ver 8 = sh2) := Lib.hid (by show putB 0 1 ++ textB name ++ putB ver 8 = _; rw [eh2, eh1])
  have zlh : sh2.size ≤ 300 := by omega
  clear eh1 zh1 eh2 zh2 qh0 qh1 qh2
  have qb0 := putB_size (u64 w0) 8
  have qb1 := resB_size w1 w2
  have qb2 := labsB_le w3l (by assumption)
  have qb3 := reqsB_le w4l (by assumption)
  have qb4 := labsB_le w5l (by assumption)
  have qb5 := putB_size (u64 w6) 8
  obtain ⟨sb0, eb0, zb0, kb0⟩ := cat_of sh2 (putB (u64 w0) 8) (by omega)
  obtain ⟨sb1, eb1, zb1, kb1⟩ := cat_of sb0 (resB w1 w2) (by omega)
  obtain ⟨sb2, eb2, zb2, kb2⟩ := cat_of sb1 (labsB w3l) (by omega)
  obtain ⟨sb3, eb3, zb3, kb3⟩ := cat_of sb2 (reqsB w4l) (by omega)
  obtain ⟨sb4, eb4, zb4, kb4⟩ := cat_of sb3 (labsB w5l) (by omega)
  obtain ⟨sb5, eb5, zb5, kb5⟩ := cat_of sb4 (putB (u64 w6) 8) (by omega)
  have HSb : Hid (wlB sh2 ⟨w0, w1, w2, ⟨.slice Aw3 w3l.length cw3, w3l⟩, ⟨.slice Aw4 w4l.length cw4, w4l⟩, ⟨.slice Aw5 w5l.length cw5, w5l⟩, w6⟩ = sb5) := Lib.hid (by show sh2 ++ putB (u64 w0) 8 ++ resB w1 w2 ++ labsB w3l ++ reqsB w4l ++ labsB w5l ++ putB (u64 w6) 8 = _; rw [eb5, eb4, eb3, eb2, eb1, eb0])
  have zlb : sb5.size ≤ 1000000 := by omega
  clear eb0 zb0 eb1 zb1 eb2 zb2 eb3 zb3 eb4 zb4 eb5 zb5 qb0 qb1 qb2 qb3 qb4 qb5
  have HR : Hid (q = sb5) := Lib.hid (by rw [HQ.out, HSh.out, HSb.out])
  clear HQ HSh HSb zlh zlb
  have hwr : IntKind.u64.wrap (0 : Int) = 0 := by decide
  have HP1 : Hid (∀ w1, Calls Try.prog 28 #[.int .u64 0, .int .i64 1] w1 fun e w' => e = .returned (.string (putB 0 1)) ∧ Below w1.heap.size w1 w') := Lib.hid (fun w1 => put_any 0 1 w1 (by decide) (by decide))
  have HP8 : Hid (∀ w1, Calls Try.prog 28 #[.int .u64 ver, .int .i64 8] w1 fun e w' => e = .returned (.string (putB ver 8)) ∧ Below w1.heap.size w1 w') := Lib.hid (fun w1 => put_any ver 8 w1 hver (by decide))
  clear hver
  go_enter Try.func14, Try.ntmps14
  go_wp2_with fail
  obtain ⟨Wb, hWb⟩ : ∃ Wb, Wb = w.alloc (.cells #[.int .i64 0, .string name, .int .u64 ver, .int .i64 w0, .int .i64 w1, .int .i64 w2, .slice Aw3 w3l.length cw3, .slice Aw4 w4l.length cw4, .slice Aw5 w5l.length cw5, .int .i64 w6, .string p0, .string p1, .int .i64 p2, .int .i64 p3, .int .i64 p4, .int .i64 p5, p6.v, p7.v, p8.v, .int .i64 p9, .string n0, .int .i64 n1, .int .i64 n2, n3.v, n4.v, .int .i64 n5, .bool n6, .int .i64 g0, .int .i64 g1, .int .i64 g2, .int .i64 g3, .int .i64 g4, g5.v, g6.v, .int .i64 g7, .string h0, .int .i64 h1, .int .i64 h2, h3.v, .int .i64 h4, .int .i64 h5, .int .i64 h6, h7.v, .int .i64 h8, .int .i64 h9, h10.v, h11.v] 48) := ⟨_, rfl⟩
  have hkb := Bk.new w 48 #[.int .i64 0, .string name, .int .u64 ver, .int .i64 w0, .int .i64 w1, .int .i64 w2, .slice Aw3 w3l.length cw3, .slice Aw4 w4l.length cw4, .slice Aw5 w5l.length cw5, .int .i64 w6, .string p0, .string p1, .int .i64 p2, .int .i64 p3, .int .i64 p4, .int .i64 p5, p6.v, p7.v, p8.v, .int .i64 p9, .string n0, .int .i64 n1, .int .i64 n2, n3.v, n4.v, .int .i64 n5, .bool n6, .int .i64 g0, .int .i64 g1, .int .i64 g2, .int .i64 g3, .int .i64 g4, g5.v, g6.v, .int .i64 g7, .string h0, .int .i64 h1, .int .i64 h2, h3.v, .int .i64 h4, .int .i64 h5, .int .i64 h6, h7.v, .int .i64 h8, .int .i64 h9, h10.v, h11.v]
  have hBb : Below w.heap.size w Wb := by rw [hWb]; exact below_al _ _
  rw [← hWb] at hkb ⊢
  have bc0 : Wb.cell? ⟨w.heap.size, 0, none⟩ = some (.int .i64 0) := hkb.cell 0
  have bc1 : Wb.cell? ⟨w.heap.size, 1, none⟩ = some (.string name) := hkb.cell 1
  have bc2 : Wb.cell? ⟨w.heap.size, 2, none⟩ = some (.int .u64 ver) := hkb.cell 2
  have bc3 : Wb.cell? ⟨w.heap.size, 3, none⟩ = some (.int .i64 w0) := hkb.cell 3
  have bc4 : Wb.cell? ⟨w.heap.size, 4, none⟩ = some (.int .i64 w1) := hkb.cell 4
  have bc5 : Wb.cell? ⟨w.heap.size, 5, none⟩ = some (.int .i64 w2) := hkb.cell 5
  have bc6 : Wb.cell? ⟨w.heap.size, 6, none⟩ = some (.slice Aw3 w3l.length cw3) := hkb.cell 6
  have bc7 : Wb.cell? ⟨w.heap.size, 7, none⟩ = some (.slice Aw4 w4l.length cw4) := hkb.cell 7
  have bc8 : Wb.cell? ⟨w.heap.size, 8, none⟩ = some (.slice Aw5 w5l.length cw5) := hkb.cell 8
  have bc9 : Wb.cell? ⟨w.heap.size, 9, none⟩ = some (.int .i64 w6) := hkb.cell 9
  clear hWb hkb
  go_region_held3 (fun w' => w'.cell? ⟨w.heap.size, 0, none⟩ = some (.int .i64 0) ∧ w'.cell? ⟨w.heap.size, 1, none⟩ = some (.string name) ∧ w'.cell? ⟨w.heap.size, 2, none⟩ = some (.int .u64 ver) ∧ Below Wb.heap.size Wb w')
    (first | (have hB9 := below_tr (by assumption : _ ∧ _ ∧ _ ∧ Below Wb.heap.size Wb _).2.2.2 hb'; exact ⟨keep_cell hB9 bc0, keep_cell hB9 bc1, keep_cell hB9 bc2, hB9⟩) | (exact ⟨bc0, bc1, bc2, (Below.refl _ _).drew⟩)) (first
    | (go_at_call 28; ((with_reducible refine (HP1.out _).mono ?_); rintro e w' ⟨rfl, hb'⟩))
    | (go_at_call 29; refine (text_any _ _ (by assumption)).mono ?_; rintro e w' ⟨rfl, hb'⟩)
    | (go_at_call 28; ((with_reducible refine (HP8.out _).mono ?_); rintro e w' ⟨rfl, hb'⟩)))
  have hBz := (by assumption : _ ∧ _ ∧ _ ∧ Below Wb.heap.size Wb _).2.2.2
  obtain ⟨W1, hW1⟩ : ∃ W1, W1 = w' := ⟨_, rfl⟩
  subst hW1
  have hB1 := hBb.trans (hBz.mono hBb.size)
  have d0 := keep_cell hBz bc0
  have d3 := keep_cell hBz bc3
  have d4 := keep_cell hBz bc4
  have d5 := keep_cell hBz bc5
  have d6 := keep_cell hBz bc6
  have d7 := keep_cell hBz bc7
  have d8 := keep_cell hBz bc8
  have d9 := keep_cell hBz bc9
  clear hwr hBz hBb HP1 HP8 bc0 bc1 bc2 bc3 bc4 bc5 bc6 bc7 bc8 bc9
  go_wp2_with fail
  obtain ⟨W0, hW0⟩ : ∃ W0, W0 = W1.alloc (.cells #[.int .i64 w0, .int .i64 w1, .int .i64 w2, .slice Aw3 w3l.length cw3, .slice Aw4 w4l.length cw4, .slice Aw5 w5l.length cw5, .int .i64 w6] 33) := ⟨_, rfl⟩
  have hk0 := Bk.new W1 33 #[.int .i64 w0, .int .i64 w1, .int .i64 w2, .slice Aw3 w3l.length cw3, .slice Aw4 w4l.length cw4, .slice Aw5 w5l.length cw5, .int .i64 w6]
  have hA0 : Below W1.heap.size W1 W0 := by rw [hW0]; exact below_al _ _
  have hB0 : Below w.heap.size w W0 := hB1.trans (hA0.mono hB1.size)
  rw [← hW0] at hk0 ⊢
  have c0 : W0.cell? ⟨W1.heap.size, 0, none⟩ = some (.int .i64 w0) := hk0.cell 0
  have c1 : W0.cell? ⟨W1.heap.size, 1, none⟩ = some (.int .i64 w1) := hk0.cell 1
  have c2 : W0.cell? ⟨W1.heap.size, 2, none⟩ = some (.int .i64 w2) := hk0.cell 2
  have c3 : W0.cell? ⟨W1.heap.size, 3, none⟩ = some (.slice Aw3 w3l.length cw3) := hk0.cell 3
  have c4 : W0.cell? ⟨W1.heap.size, 4, none⟩ = some (.slice Aw4 w4l.length cw4) := hk0.cell 4
  have c5 : W0.cell? ⟨W1.heap.size, 5, none⟩ = some (.slice Aw5 w5l.length cw5) := hk0.cell 5
  have c6 : W0.cell? ⟨W1.heap.size, 6, none⟩ = some (.int .i64 w6) := hk0.cell 6
  clear hW0 hk0 hA0 d0 d3 d4 d5 d6 d7 d8 d9
  go_region_held3 (fun w' => w'.cell? ⟨W1.heap.size, 0, none⟩ = some (.int .i64 w0) ∧ w'.cell? ⟨W1.heap.size, 1, none⟩ = some (.int .i64 w1) ∧ w'.cell? ⟨W1.heap.size, 2, none⟩ = some (.int .i64 w2) ∧ w'.cell? ⟨W1.heap.size, 3, none⟩ = some (.slice Aw3 w3l.length cw3) ∧ w'.cell? ⟨W1.heap.size, 4, none⟩ = some (.slice Aw4 w4l.length cw4) ∧ w'.cell? ⟨W1.heap.size, 5, none⟩ = some (.slice Aw5 w5l.length cw5) ∧ w'.cell? ⟨W1.heap.size, 6, none⟩ = some (.int .i64 w6) ∧ Below W0.heap.size W0 w')
    (first | (have hB9 := below_tr (by assumption : _ ∧ _ ∧ _ ∧ _ ∧ _ ∧ _ ∧ _ ∧ Below W0.heap.size W0 _).2.2.2.2.2.2.2 hb'; exact ⟨keep_cell hB9 c0, keep_cell hB9 c1, keep_cell hB9 c2, keep_cell hB9 c3, keep_cell hB9 c4, keep_cell hB9 c5, keep_cell hB9 c6, hB9⟩) | (exact ⟨c0, c1, c2, c3, c4, c5, c6, (Below.refl _ _).drew⟩)) (first
    | (go_at_call 30; refine (int_any _ _ (by assumption)).mono ?_; rintro e w' ⟨rfl, hb'⟩)
    | (go_at_call 31; refine (resources_any _ _ _ (by assumption) (by assumption)).mono ?_; rintro e w' ⟨rfl, hb'⟩)
    | (go_at_call 32; ((with_reducible refine (Cw3.out _ (below_tr hB0 (by assumption : _ ∧ _ ∧ _ ∧ _ ∧ _ ∧ _ ∧ _ ∧ Below W0.heap.size W0 _).2.2.2.2.2.2.2)).mono ?_); rintro e w' ⟨rfl, hb'⟩))
    | (go_at_call 33; ((with_reducible refine (Cw4.out _ (below_tr hB0 (by assumption : _ ∧ _ ∧ _ ∧ _ ∧ _ ∧ _ ∧ _ ∧ Below W0.heap.size W0 _).2.2.2.2.2.2.2)).mono ?_); rintro e w' ⟨rfl, hb'⟩))
    | (go_at_call 32; ((with_reducible refine (Cw5.out _ (below_tr hB0 (by assumption : _ ∧ _ ∧ _ ∧ _ ∧ _ ∧ _ ∧ _ ∧ Below W0.heap.size W0 _).2.2.2.2.2.2.2)).mono ?_); rintro e w' ⟨rfl, hb'⟩)))
  have hBy := (by assumption : _ ∧ _ ∧ _ ∧ _ ∧ _ ∧ _ ∧ _ ∧ Below W0.heap.size W0 _).2.2.2.2.2.2.2
  go_wp2_with fail
  go_ret
  exact ⟨by rw [HR.out]; rfl, hB0.trans (hBy.mono hB0.size)⟩
end Go.Proofs.Ythdjfcfbmmmmcaa
