/-
  The walk of trimtabref06.Object at an Hpa. (printed by wip/gen_obj.py)
-/
import Derived.Test.YthdjfcfbmmmmcaaRef6d
namespace Go.Proofs.Ythdjfcfbmmmmcaa
open Go.RowKit Go.Proofs.Mem
set_option linter.unusedVariables false
set_option linter.unusedSimpArgs false
set_option maxHeartbeats 8000000 in
set_option maxRecDepth 100000 in
theorem object_hp (o : Ob) (w : World) (hk : o.kind = 4) (ho : o.h.Ok w) (hv : wfi .u64 o.version) (hn : s255 o.name) (hs : HpS o.h) :
    Calls Try.prog 14 #[.agg o.cells.toArray] w fun e w' => e = .returned (.string (objB o)) ∧ Below w.heap.size w w' := by
  obtain ⟨kind, name, version, ⟨w0, w1, w2, w3, w4, w5, w6⟩, ⟨p0, p1, p2, p3, p4, p5, p6, p7, p8, p9⟩, ⟨n0, n1, n2, n3, n4, n5, n6⟩, ⟨g0, g1, g2, g3, g4, g5, g6, g7⟩, ⟨h0, h1, h2, h3, h4, ⟨h5, h6, h7⟩, ⟨h8, h9, h10⟩, h11⟩⟩ := o
  simp only at hk hn hs
  subst hk
  obtain ⟨ver, hver, rfl⟩ := u64_nat hv
  clear hv
  unfold s255 at hn
  obtain ⟨_, oh1, oh2, oh3, oh4, ou, od, oh11⟩ := ho
  obtain ⟨th0, th3, tm3, tu, td, th11⟩ := hs
  simp only at oh1 oh2 oh3 oh4 ou od oh11 th0 th3 tm3 tu td th11
  unfold s255 at th0
  obtain ⟨h3v, h3l⟩ := h3
  obtain ⟨Ah3, ch3, eh3, _⟩ := id oh3.1
  have eh3 : h3v = .slice Ah3 h3l.length ch3 := eh3
  subst eh3
  simp only at oh3 th3
  obtain ⟨h11v, h11l⟩ := h11
  obtain ⟨Ah11, ch11, eh11, _⟩ := id oh11.1
  have eh11 : h11v = .slice Ah11 h11l.length ch11 := eh11
  subst eh11
  simp only at oh11 th11
  simp only at tm3
  obtain ⟨h7v, h7l⟩ := h7
  obtain ⟨Ah7, ch7, eh7, _⟩ := id ou.policies.1
  have eh7 : h7v = .slice Ah7 h7l.length ch7 := eh7
  subst eh7
  obtain ⟨h10v, h10l⟩ := h10
  obtain ⟨Ah10, ch10, eh10, _⟩ := id od.policies.1
  have eh10 : h10v = .slice Ah10 h10l.length ch10 := eh10
  subst eh10
  obtain ⟨hl3, _, hwf3⟩ := oh3
  obtain ⟨hl11, _, hwf11⟩ := oh11
  simp only at hl3 hwf3 hl11 hwf11
  have ok3 : True ∧ ∀ x ∈ h3l, x.Wf ∧ metSx x := ⟨trivial, fun x hx => ⟨hwf3 x hx, tm3 x hx⟩⟩
  have ok11 : True ∧ ∀ x ∈ h11l, x.Wf ∧ doneSx x := ⟨trivial, fun x hx => ⟨hwf11 x hx, trivial⟩⟩
  clear hwf3 hwf11 tm3
  obtain ⟨ub, hub⟩ : ∃ s, s = bhB ⟨h5, h6, ⟨.slice Ah7 h7l.length ch7, h7l⟩⟩ := ⟨_, rfl⟩
  obtain ⟨db, hdb⟩ : ∃ s, s = bhB ⟨h8, h9, ⟨.slice Ah10 h10l.length ch10, h10l⟩⟩ := ⟨_, rfl⟩
  have zu : ub.size ≤ 5000 := by rw [hub]; exact bhB_le _ tu
  have zd : db.size ≤ 5000 := by rw [hdb]; exact bhB_le _ td
  have Cu : Hid (∀ w1, Below w.heap.size w w1 → Calls Try.prog 35 #[.agg #[.int .i64 h5, .int .i64 h6, .slice Ah7 h7l.length ch7]] w1 fun e w' => e = .returned (.string ub) ∧ Below w1.heap.size w1 w') := Lib.hid (fun w1 hb => by rw [hub]; exact behavior_any ⟨h5, h6, ⟨.slice Ah7 h7l.length ch7, h7l⟩⟩ w1 (ou.below hb) tu)
  have Cd : Hid (∀ w1, Below w.heap.size w w1 → Calls Try.prog 35 #[.agg #[.int .i64 h8, .int .i64 h9, .slice Ah10 h10l.length ch10]] w1 fun e w' => e = .returned (.string db) ∧ Below w1.heap.size w1 w') := Lib.hid (fun w1 hb => by rw [hdb]; exact behavior_any ⟨h8, h9, ⟨.slice Ah10 h10l.length ch10, h10l⟩⟩ w1 (od.below hb) td)
  clear ou od tu td
  obtain ⟨q, hq⟩ : ∃ q, q = objB ⟨4, name, ver, ⟨w0, w1, w2, w3, w4, w5, w6⟩, ⟨p0, p1, p2, p3, p4, p5, p6, p7, p8, p9⟩, ⟨n0, n1, n2, n3, n4, n5, n6⟩, ⟨g0, g1, g2, g3, g4, g5, g6, g7⟩, ⟨h0, h1, h2, ⟨.slice Ah3 h3l.length ch3, h3l⟩, h4, ⟨h5, h6, ⟨.slice Ah7 h7l.length ch7, h7l⟩⟩, ⟨h8, h9, ⟨.slice Ah10 h10l.length ch10, h10l⟩⟩, ⟨.slice Ah11 h11l.length ch11, h11l⟩⟩⟩ := ⟨_, rfl⟩
  rw [← hq]
  have HQ : Hid (q = doneF (metF (putB 4 1 ++ textB name ++ putB ver 8 ++ textB h0 ++ putB (u64 h1) 8 ++ putB (u64 h2) 8 ++ putB h3l.length 1) h3l ++ putB (u64 h4) 8 ++ ub ++ db ++ putB h11l.length 1) h11l) := Lib.hid (by rw [hq, hub, hdb]; rfl)
  clear hq hub hdb
  simp only [Ob.cells, Wl.cells, Pd.cells, Nd.cells, Gr.cells, Hp.cells, List.cons_append, List.nil_append]
  have qh0 := putB_size 4 1
  have qh1 := textB_size name
  have qh2 := putB_size ver 8
  have qh3 := textB_size h0
  have qh4 := putB_size (u64 h1) 8
  have qh5 := putB_size (u64 h2) 8
  have qh6 := putB_size h3l.length 1
  obtain ⟨sh1, eh1, zh1, kh1⟩ := cat_of (putB 4 1) (textB name) (by omega)
  obtain ⟨sh2, eh2, zh2, kh2⟩ := cat_of sh1 (putB ver 8) (by omega)
  obtain ⟨sh3, eh3, zh3, kh3⟩ := cat_of sh2 (textB h0) (by omega)
  obtain ⟨sh4, eh4, zh4, kh4⟩ := cat_of sh3 (putB (u64 h1) 8) (by omega)
  obtain ⟨sh5, eh5, zh5, kh5⟩ := cat_of sh4 (putB (u64 h2) 8) (by omega)
  obtain ⟨sh6, eh6, zh6, kh6⟩ := cat_of sh5 (putB h3l.length 1) (by omega)
  have HSh : Hid (putB 4 1 ++ textB name ++ putB ver 8 ++ textB h0 ++ putB (u64 h1) 8 ++ putB (u64 h2) 8 ++ putB h3l.length 1 = sh6) := Lib.hid (by show putB 4 1 ++ textB name ++ putB ver 8 ++ textB h0 ++ putB (u64 h1) 8 ++ putB (u64 h2) 8 ++ putB h3l.length 1 = _; rw [eh6, eh5, eh4, eh3, eh2, eh1])
  have zlh : sh6.size ≤ 600 := by omega
  clear eh1 zh1 eh2 zh2 eh3 zh3 eh4 zh4 eh5 zh5 eh6 zh6 qh0 qh1 qh2 qh3 qh4 qh5 qh6
  have HQ2 : Hid (q = doneF (metF sh6 h3l ++ putB (u64 h4) 8 ++ ub ++ db ++ putB h11l.length 1) h11l) := Lib.hid (by rw [HQ.out, HSh.out])
  clear HQ HSh
  have hms : (metF sh6 h3l).size ≤ 100000 := by
    have := metF_size sh6 h3l (fun x hx => (ok3.2 x hx).2)
    omega
  obtain ⟨mb, hmb⟩ : ∃ s, s = metF sh6 h3l := ⟨_, rfl⟩
  rw [← hmb] at HQ2 hms
  have qb0 := putB_size (u64 h4) 8
  have qb1 := zu
  have qb2 := zd
  have qb3 := putB_size h11l.length 1
  obtain ⟨sb0, eb0, zb0, kb0⟩ := cat_of mb (putB (u64 h4) 8) (by omega)
  obtain ⟨sb1, eb1, zb1, kb1⟩ := cat_of sb0 (ub) (by omega)
  obtain ⟨sb2, eb2, zb2, kb2⟩ := cat_of sb1 (db) (by omega)
  obtain ⟨sb3, eb3, zb3, kb3⟩ := cat_of sb2 (putB h11l.length 1) (by omega)
  have HSb : Hid (mb ++ putB (u64 h4) 8 ++ ub ++ db ++ putB h11l.length 1 = sb3) := Lib.hid (by show mb ++ putB (u64 h4) 8 ++ ub ++ db ++ putB h11l.length 1 = _; rw [eb3, eb2, eb1, eb0])
  have zlb : sb3.size ≤ 200000 := by omega
  clear eb0 zb0 eb1 zb1 eb2 zb2 eb3 zb3 qb0 qb1 qb2 qb3
  have HR : Hid (q = doneF sb3 h11l) := Lib.hid (by rw [HQ2.out, HSb.out])
  have HMB := Lib.hid hmb
  clear HQ2 HSb hmb
  have hwr : IntKind.u64.wrap (4 : Int) = 4 := by decide
  have HP1 : Hid (∀ w1, Calls Try.prog 28 #[.int .u64 4, .int .i64 1] w1 fun e w' => e = .returned (.string (putB 4 1)) ∧ Below w1.heap.size w1 w') := Lib.hid (fun w1 => put_any 4 1 w1 (by decide) (by decide))
  have HP8 : Hid (∀ w1, Calls Try.prog 28 #[.int .u64 ver, .int .i64 8] w1 fun e w' => e = .returned (.string (putB ver 8)) ∧ Below w1.heap.size w1 w') := Lib.hid (fun w1 => put_any ver 8 w1 hver (by decide))
  clear hver
  go_enter Try.func14, Try.ntmps14
  go_wp2_with fail
  obtain ⟨Wb, hWb⟩ : ∃ Wb, Wb = w.alloc (.cells #[.int .i64 4, .string name, .int .u64 ver, .int .i64 w0, .int .i64 w1, .int .i64 w2, w3.v, w4.v, w5.v, .int .i64 w6, .string p0, .string p1, .int .i64 p2, .int .i64 p3, .int .i64 p4, .int .i64 p5, p6.v, p7.v, p8.v, .int .i64 p9, .string n0, .int .i64 n1, .int .i64 n2, n3.v, n4.v, .int .i64 n5, .bool n6, .int .i64 g0, .int .i64 g1, .int .i64 g2, .int .i64 g3, .int .i64 g4, g5.v, g6.v, .int .i64 g7, .string h0, .int .i64 h1, .int .i64 h2, .slice Ah3 h3l.length ch3, .int .i64 h4, .int .i64 h5, .int .i64 h6, .slice Ah7 h7l.length ch7, .int .i64 h8, .int .i64 h9, .slice Ah10 h10l.length ch10, .slice Ah11 h11l.length ch11] 48) := ⟨_, rfl⟩
  have hkb := Bk.new w 48 #[.int .i64 4, .string name, .int .u64 ver, .int .i64 w0, .int .i64 w1, .int .i64 w2, w3.v, w4.v, w5.v, .int .i64 w6, .string p0, .string p1, .int .i64 p2, .int .i64 p3, .int .i64 p4, .int .i64 p5, p6.v, p7.v, p8.v, .int .i64 p9, .string n0, .int .i64 n1, .int .i64 n2, n3.v, n4.v, .int .i64 n5, .bool n6, .int .i64 g0, .int .i64 g1, .int .i64 g2, .int .i64 g3, .int .i64 g4, g5.v, g6.v, .int .i64 g7, .string h0, .int .i64 h1, .int .i64 h2, .slice Ah3 h3l.length ch3, .int .i64 h4, .int .i64 h5, .int .i64 h6, .slice Ah7 h7l.length ch7, .int .i64 h8, .int .i64 h9, .slice Ah10 h10l.length ch10, .slice Ah11 h11l.length ch11]
  have hBb : Below w.heap.size w Wb := by rw [hWb]; exact below_al _ _
  rw [← hWb] at hkb ⊢
  have bc0 : Wb.cell? ⟨w.heap.size, 0, none⟩ = some (.int .i64 4) := hkb.cell 0
  have bc1 : Wb.cell? ⟨w.heap.size, 1, none⟩ = some (.string name) := hkb.cell 1
  have bc2 : Wb.cell? ⟨w.heap.size, 2, none⟩ = some (.int .u64 ver) := hkb.cell 2
  have bc35 : Wb.cell? ⟨w.heap.size, 35, none⟩ = some (.string h0) := hkb.cell 35
  have bc36 : Wb.cell? ⟨w.heap.size, 36, none⟩ = some (.int .i64 h1) := hkb.cell 36
  have bc37 : Wb.cell? ⟨w.heap.size, 37, none⟩ = some (.int .i64 h2) := hkb.cell 37
  have bc38 : Wb.cell? ⟨w.heap.size, 38, none⟩ = some (.slice Ah3 h3l.length ch3) := hkb.cell 38
  have bc39 : Wb.cell? ⟨w.heap.size, 39, none⟩ = some (.int .i64 h4) := hkb.cell 39
  have bc40 : Wb.cell? ⟨w.heap.size, 40, none⟩ = some (.int .i64 h5) := hkb.cell 40
  have bc41 : Wb.cell? ⟨w.heap.size, 41, none⟩ = some (.int .i64 h6) := hkb.cell 41
  have bc42 : Wb.cell? ⟨w.heap.size, 42, none⟩ = some (.slice Ah7 h7l.length ch7) := hkb.cell 42
  have bc43 : Wb.cell? ⟨w.heap.size, 43, none⟩ = some (.int .i64 h8) := hkb.cell 43
  have bc44 : Wb.cell? ⟨w.heap.size, 44, none⟩ = some (.int .i64 h9) := hkb.cell 44
  have bc45 : Wb.cell? ⟨w.heap.size, 45, none⟩ = some (.slice Ah10 h10l.length ch10) := hkb.cell 45
  have bc46 : Wb.cell? ⟨w.heap.size, 46, none⟩ = some (.slice Ah11 h11l.length ch11) := hkb.cell 46
  clear hWb hkb
  go_region_held3 (fun w' => w'.cell? ⟨w.heap.size, 0, none⟩ = some (.int .i64 4) ∧ w'.cell? ⟨w.heap.size, 1, none⟩ = some (.string name) ∧ w'.cell? ⟨w.heap.size, 2, none⟩ = some (.int .u64 ver) ∧ Below Wb.heap.size Wb w')
    (first | (have hB9 := below_tr (by assumption : _ ∧ _ ∧ _ ∧ Below Wb.heap.size Wb _).2.2.2 hb'; exact ⟨keep_cell hB9 bc0, keep_cell hB9 bc1, keep_cell hB9 bc2, hB9⟩) | (exact ⟨bc0, bc1, bc2, (Below.refl _ _).drew⟩)) (first
    | (go_at_call 28; ((with_reducible refine (HP1.out _).mono ?_); rintro e w' ⟨rfl, hb'⟩))
    | (go_at_call 29; refine (text_any _ _ (by assumption)).mono ?_; rintro e w' ⟨rfl, hb'⟩)
    | (go_at_call 28; ((with_reducible refine (HP8.out _).mono ?_); rintro e w' ⟨rfl, hb'⟩)))
  have hBz := (by assumption : _ ∧ _ ∧ _ ∧ Below Wb.heap.size Wb _).2.2.2
  obtain ⟨W1, hW1⟩ : ∃ W1, W1 = w' := ⟨_, rfl⟩
  subst hW1
  have hB1 := hBb.trans (hBz.mono hBb.size)
  have d0 := keep_cell hBz bc0
  have d35 := keep_cell hBz bc35
  have d36 := keep_cell hBz bc36
  have d37 := keep_cell hBz bc37
  have d38 := keep_cell hBz bc38
  have d39 := keep_cell hBz bc39
  have d40 := keep_cell hBz bc40
  have d41 := keep_cell hBz bc41
  have d42 := keep_cell hBz bc42
  have d43 := keep_cell hBz bc43
  have d44 := keep_cell hBz bc44
  have d45 := keep_cell hBz bc45
  have d46 := keep_cell hBz bc46
  clear hwr hBz hBb HP1 HP8 bc0 bc1 bc2 bc35 bc36 bc37 bc38 bc39 bc40 bc41 bc42 bc43 bc44 bc45 bc46
  go_wp2_with fail
  obtain ⟨W0, hW0⟩ : ∃ W0, W0 = W1.alloc (.cells #[.string h0, .int .i64 h1, .int .i64 h2, .slice Ah3 h3l.length ch3, .int .i64 h4, .int .i64 h5, .int .i64 h6, .slice Ah7 h7l.length ch7, .int .i64 h8, .int .i64 h9, .slice Ah10 h10l.length ch10, .slice Ah11 h11l.length ch11] 46) := ⟨_, rfl⟩
  have hk0 := Bk.new W1 46 #[.string h0, .int .i64 h1, .int .i64 h2, .slice Ah3 h3l.length ch3, .int .i64 h4, .int .i64 h5, .int .i64 h6, .slice Ah7 h7l.length ch7, .int .i64 h8, .int .i64 h9, .slice Ah10 h10l.length ch10, .slice Ah11 h11l.length ch11]
  have hA0 : Below W1.heap.size W1 W0 := by rw [hW0]; exact below_al _ _
  have hB0 : Below w.heap.size w W0 := hB1.trans (hA0.mono hB1.size)
  rw [← hW0] at hk0 ⊢
  have c0 : W0.cell? ⟨W1.heap.size, 0, none⟩ = some (.string h0) := hk0.cell 0
  have c1 : W0.cell? ⟨W1.heap.size, 1, none⟩ = some (.int .i64 h1) := hk0.cell 1
  have c2 : W0.cell? ⟨W1.heap.size, 2, none⟩ = some (.int .i64 h2) := hk0.cell 2
  have c3 : W0.cell? ⟨W1.heap.size, 3, none⟩ = some (.slice Ah3 h3l.length ch3) := hk0.cell 3
  have c4 : W0.cell? ⟨W1.heap.size, 4, none⟩ = some (.int .i64 h4) := hk0.cell 4
  have c5 : W0.cell? ⟨W1.heap.size, 5, none⟩ = some (.int .i64 h5) := hk0.cell 5
  have c6 : W0.cell? ⟨W1.heap.size, 6, none⟩ = some (.int .i64 h6) := hk0.cell 6
  have c7 : W0.cell? ⟨W1.heap.size, 7, none⟩ = some (.slice Ah7 h7l.length ch7) := hk0.cell 7
  have c8 : W0.cell? ⟨W1.heap.size, 8, none⟩ = some (.int .i64 h8) := hk0.cell 8
  have c9 : W0.cell? ⟨W1.heap.size, 9, none⟩ = some (.int .i64 h9) := hk0.cell 9
  have c10 : W0.cell? ⟨W1.heap.size, 10, none⟩ = some (.slice Ah10 h10l.length ch10) := hk0.cell 10
  have c11 : W0.cell? ⟨W1.heap.size, 11, none⟩ = some (.slice Ah11 h11l.length ch11) := hk0.cell 11
  clear hW0 hk0 hA0 d0 d35 d36 d37 d38 d39 d40 d41 d42 d43 d44 d45 d46
  have hwr := wrap_len h3l.length th3
  go_region_held3 (fun w' => w'.cell? ⟨W1.heap.size, 0, none⟩ = some (.string h0) ∧ w'.cell? ⟨W1.heap.size, 1, none⟩ = some (.int .i64 h1) ∧ w'.cell? ⟨W1.heap.size, 2, none⟩ = some (.int .i64 h2) ∧ w'.cell? ⟨W1.heap.size, 3, none⟩ = some (.slice Ah3 h3l.length ch3) ∧ Below W0.heap.size W0 w')
    (first | (have hB9 := below_tr (by assumption : _ ∧ _ ∧ _ ∧ _ ∧ Below W0.heap.size W0 _).2.2.2.2 hb'; exact ⟨keep_cell hB9 c0, keep_cell hB9 c1, keep_cell hB9 c2, keep_cell hB9 c3, hB9⟩) | (exact ⟨c0, c1, c2, c3, (Below.refl _ _).drew⟩)) (first
    | (go_at_call 29; refine (text_any _ _ (by assumption)).mono ?_; rintro e w' ⟨rfl, hb'⟩)
    | (go_at_call 30; refine (int_any _ _ (by assumption)).mono ?_; rintro e w' ⟨rfl, hb'⟩)
    | (go_at_call 28; refine (put_any _ 1 _ (by omega) (by omega)).mono ?_; rintro e w' ⟨rfl, hb'⟩))
  have hBy := (by assumption : _ ∧ _ ∧ _ ∧ _ ∧ Below W0.heap.size W0 _).2.2.2.2
  obtain ⟨W2, hW2⟩ : ∃ W2, W2 = w' := ⟨_, rfl⟩
  subst hW2
  have hB2 : Below w.heap.size w W2 := hB0.trans (hBy.mono hB0.size)
  have hl3' := hl3.below hB2
  have d3 := keep_cell hBy c3
  have d4 := keep_cell hBy c4
  have d5 := keep_cell hBy c5
  have d6 := keep_cell hBy c6
  have d7 := keep_cell hBy c7
  have d8 := keep_cell hBy c8
  have d9 := keep_cell hBy c9
  have d10 := keep_cell hBy c10
  have d11 := keep_cell hBy c11
  clear hwr hBy hB0 c0 c1 c2 c3 c4 c5 c6 c7 c8 c9 c10 c11
  have hB22 := Below.refl W2.heap.size W2
  go_wp2_with fail
  go_loopw [183, 3, 10] (fun i s p wr => ∃ k : Nat, k ≤ h3l.length ∧ i = .int .i64 k ∧ s = .string (metF sh6 (h3l.take k)) ∧ Below W2.heap.size W2 wr) (fun i s p wr => h3l.length - (intOf i).toNat)
  case atStart => exact ⟨0, Nat.zero_le _, rfl, rfl, hB22⟩
  case round =>
    obtain ⟨k, hk, rfl, rfl, hB⟩ := hrel
    by_cases hlt : k < h3l.length
    · obtain ⟨b, o, rfl, hbl, hadd, hcell⟩ := Sl.row' (s := 3) (f := Met.cells) (fun _ => rfl) (by omega) (hl3'.below hB) k hlt
      have a0 : wr.cell? ⟨b, o + k * 3, none⟩ = _ := hcell 0 _ rfl
      have a1 := hcell 1 _ rfl
      have a2 := hcell 2 _ rfl
      have hsz := (metF_size sh6 (h3l.take k) (fun x hx' => (ok3.2 x (List.mem_of_mem_take hx')).2))
      have hlen : (h3l.take k).length = k := by simp; omega
      have hx2 := ok3.2 _ (List.getElem_mem hlt)
      have hsn := metF_snoc sh6 (h3l.take k) h3l[k]
      rw [← List.take_succ_eq_append_getElem hlt] at hsn
      rw [hlen] at hsz
      have HS := Lib.hid hsn
      clear hsn hcell hlen
      generalize metF sh6 (h3l.take k) = out at hsz HS ⊢
      generalize h3l[k] = x at a0 a1 a2 hx2 HS
      obtain ⟨x0, x1, x2⟩ := x
      obtain ⟨hw2, hx2⟩ := hx2
      simp only [Met.Wf, metSx] at a0 a1 a2 HS hw2 hx2
      try unfold s255 at hx2
      obtain ⟨hw2a, hw2c, hw2b⟩ := hw2
      have qx0 := putB_size (u64 x0) 8
      have qx1 := textB_size x1
      have qx2 := putB_size (u64 x2) 8
      obtain ⟨sx0, ex0, zx0, kx0⟩ := cat_of out (putB (u64 x0) 8) (by omega)
      obtain ⟨sx1, ex1, zx1, kx1⟩ := cat_of sx0 (textB x1) (by omega)
      obtain ⟨sx2, ex2, zx2, kx2⟩ := cat_of sx1 (putB (u64 x2) 8) (by omega)
      have HSx : Hid (metF sh6 (h3l.take (k + 1)) = sx2) := Lib.hid (by rw [HS.out]; show out ++ putB (u64 x0) 8 ++ textB x1 ++ putB (u64 x2) 8 = _; rw [ex2, ex1, ex0])
      have zlx : sx2.size ≤ 1000000 := by omega
      clear ex0 zx0 ex1 zx1 ex2 zx2 qx0 qx1 qx2
      clear HS zlx
      go_wp2_with fail
      obtain ⟨W0, hW0⟩ : ∃ W0, W0 = wr.alloc (.cells #[.int .i64 x0, .string x1, .int .i64 x2] 81) := ⟨_, rfl⟩
      have hk0 := Bk.new wr 81 #[.int .i64 x0, .string x1, .int .i64 x2]
      have hB0 : Below W2.heap.size W2 W0 := by rw [hW0]; exact hB.alloc hB.size _
      rw [← hW0] at hk0 ⊢
      have c0 : W0.cell? ⟨wr.heap.size, 0, none⟩ = some (.int .i64 x0) := hk0.cell 0
      have c1 : W0.cell? ⟨wr.heap.size, 1, none⟩ = some (.string x1) := hk0.cell 1
      have c2 : W0.cell? ⟨wr.heap.size, 2, none⟩ = some (.int .i64 x2) := hk0.cell 2
      clear hW0 hk0
      go_region_held3 (fun w' => w'.cell? ⟨wr.heap.size, 0, none⟩ = some (.int .i64 x0) ∧ w'.cell? ⟨wr.heap.size, 1, none⟩ = some (.string x1) ∧ w'.cell? ⟨wr.heap.size, 2, none⟩ = some (.int .i64 x2) ∧ Below W0.heap.size W0 w')
        (first | (have hB9 := below_tr (by assumption : _ ∧ _ ∧ _ ∧ Below W0.heap.size W0 _).2.2.2 hb'; exact ⟨keep_cell hB9 c0, keep_cell hB9 c1, keep_cell hB9 c2, hB9⟩) | (exact ⟨c0, c1, c2, (Below.refl _ _).drew⟩)) (first
        | (go_at_call 30; refine (int_any _ _ (by assumption)).mono ?_; rintro e w' ⟨rfl, hb'⟩)
        | (go_at_call 29; refine (text_any _ _ (by assumption)).mono ?_; rintro e w' ⟨rfl, hb'⟩))
      have hBz := (by assumption : _ ∧ _ ∧ _ ∧ Below W0.heap.size W0 _).2.2.2
      go_wp2_with fail
      exact ⟨⟨k + 1, by omega, by go_num, by rw [HSx.out], hB0.trans (hBz.mono hB0.size)⟩, by simp [intOf]; omega⟩
    · rw [List.take_of_length_le (show h3l.length ≤ k by omega)]
      rw [← HMB.out]
      obtain ⟨W3, hW3⟩ : ∃ W3, W3 = wr := ⟨_, rfl⟩
      subst hW3
      have c4 := keep_cell hB d4
      have c5 := keep_cell hB d5
      have c6 := keep_cell hB d6
      have c7 := keep_cell hB d7
      have c8 := keep_cell hB d8
      have c9 := keep_cell hB d9
      have c10 := keep_cell hB d10
      have c11 := keep_cell hB d11
      have hBv : Below w.heap.size w W3 := hB2.trans (hB.mono hB2.size)
      have hl11' := hl11.below hBv
      clear d3 d4 d5 d6 d7 d8 d9 d10 d11
      have hwr := wrap_len h11l.length th11
      go_wp2_with fail
      go_region_held3 (fun w' => w'.cell? ⟨W1.heap.size, 4, none⟩ = some (.int .i64 h4) ∧ w'.cell? ⟨W1.heap.size, 5, none⟩ = some (.int .i64 h5) ∧ w'.cell? ⟨W1.heap.size, 6, none⟩ = some (.int .i64 h6) ∧ w'.cell? ⟨W1.heap.size, 7, none⟩ = some (.slice Ah7 h7l.length ch7) ∧ w'.cell? ⟨W1.heap.size, 8, none⟩ = some (.int .i64 h8) ∧ w'.cell? ⟨W1.heap.size, 9, none⟩ = some (.int .i64 h9) ∧ w'.cell? ⟨W1.heap.size, 10, none⟩ = some (.slice Ah10 h10l.length ch10) ∧ w'.cell? ⟨W1.heap.size, 11, none⟩ = some (.slice Ah11 h11l.length ch11) ∧ Below W3.heap.size W3 w')
        (first | (have hB9 := below_tr (by assumption : _ ∧ _ ∧ _ ∧ _ ∧ _ ∧ _ ∧ _ ∧ _ ∧ Below W3.heap.size W3 _).2.2.2.2.2.2.2.2 hb'; exact ⟨keep_cell hB9 c4, keep_cell hB9 c5, keep_cell hB9 c6, keep_cell hB9 c7, keep_cell hB9 c8, keep_cell hB9 c9, keep_cell hB9 c10, keep_cell hB9 c11, hB9⟩) | (exact ⟨c4, c5, c6, c7, c8, c9, c10, c11, (Below.refl _ _).drew⟩)) (first
        | (go_at_call 30; refine (int_any _ _ (by assumption)).mono ?_; rintro e w' ⟨rfl, hb'⟩)
        | (go_at_call 35; ((with_reducible refine (Cu.out _ (below_tr hBv (by assumption : _ ∧ _ ∧ _ ∧ _ ∧ _ ∧ _ ∧ _ ∧ _ ∧ Below W3.heap.size W3 _).2.2.2.2.2.2.2.2)).mono ?_); rintro e w' ⟨rfl, hb'⟩))
        | (go_at_call 35; ((with_reducible refine (Cd.out _ (below_tr hBv (by assumption : _ ∧ _ ∧ _ ∧ _ ∧ _ ∧ _ ∧ _ ∧ _ ∧ Below W3.heap.size W3 _).2.2.2.2.2.2.2.2)).mono ?_); rintro e w' ⟨rfl, hb'⟩))
        | (go_at_call 28; refine (put_any _ 1 _ (by omega) (by omega)).mono ?_; rintro e w' ⟨rfl, hb'⟩))
      have hBy := (by assumption : _ ∧ _ ∧ _ ∧ _ ∧ _ ∧ _ ∧ _ ∧ _ ∧ Below W3.heap.size W3 _).2.2.2.2.2.2.2.2
      obtain ⟨W4, hW4⟩ : ∃ W4, W4 = w' := ⟨_, rfl⟩
      subst hW4
      have hB4 : Below w.heap.size w W4 := hBv.trans (hBy.mono hBv.size)
      have hl11'' := hl11.below hB4
      have d11 := keep_cell hBy c11
      clear hwr hBy c4 c5 c6 c7 c8 c9 c10 c11
      have hB44 := Below.refl W4.heap.size W4
      go_wp2_with fail
      go_loopw [223, 3, 12] (fun i s p wr => ∃ k : Nat, k ≤ h11l.length ∧ i = .int .i64 k ∧ s = .string (doneF sb3 (h11l.take k)) ∧ Below W4.heap.size W4 wr) (fun i s p wr => h11l.length - (intOf i).toNat)
      case atStart => exact ⟨0, Nat.zero_le _, rfl, rfl, hB44⟩
      case round =>
        obtain ⟨k, hk, rfl, rfl, hB⟩ := hrel
        by_cases hlt : k < h11l.length
        · obtain ⟨b, o, rfl, hbl, hadd, hcell⟩ := Sl.row' (s := 3) (f := Done.cells) (fun _ => rfl) (by omega) (hl11''.below hB) k hlt
          have a0 : wr.cell? ⟨b, o + k * 3, none⟩ = _ := hcell 0 _ rfl
          have a1 := hcell 1 _ rfl
          have a2 := hcell 2 _ rfl
          have hsz := (doneF_size sb3 (h11l.take k) (fun x hx' => (ok11.2 x (List.mem_of_mem_take hx')).2))
          have hlen : (h11l.take k).length = k := by simp; omega
          have hx2 := ok11.2 _ (List.getElem_mem hlt)
          have hsn := doneF_snoc sb3 (h11l.take k) h11l[k]
          rw [← List.take_succ_eq_append_getElem hlt] at hsn
          rw [hlen] at hsz
          have HS := Lib.hid hsn
          clear hsn hcell hlen
          generalize doneF sb3 (h11l.take k) = out at hsz HS ⊢
          generalize h11l[k] = x at a0 a1 a2 hx2 HS
          obtain ⟨x0, x1, x2⟩ := x
          obtain ⟨hw2, hx2⟩ := hx2
          simp only [Done.Wf, doneSx] at a0 a1 a2 HS hw2 hx2
          try unfold s255 at hx2
          obtain ⟨hw2a, hw2b, hw2c⟩ := hw2
          have qx0 := putB_size (u64 x0) 8
          have qx1 := putB_size (u64 x1) 8
          have qx2 := putB_size (u64 x2) 8
          obtain ⟨sx0, ex0, zx0, kx0⟩ := cat_of out (putB (u64 x0) 8) (by omega)
          obtain ⟨sx1, ex1, zx1, kx1⟩ := cat_of sx0 (putB (u64 x1) 8) (by omega)
          obtain ⟨sx2, ex2, zx2, kx2⟩ := cat_of sx1 (putB (u64 x2) 8) (by omega)
          have HSx : Hid (doneF sb3 (h11l.take (k + 1)) = sx2) := Lib.hid (by rw [HS.out]; show out ++ putB (u64 x0) 8 ++ putB (u64 x1) 8 ++ putB (u64 x2) 8 = _; rw [ex2, ex1, ex0])
          have zlx : sx2.size ≤ 1000000 := by omega
          clear ex0 zx0 ex1 zx1 ex2 zx2 qx0 qx1 qx2
          clear HS zlx
          go_wp2_with fail
          obtain ⟨W0, hW0⟩ : ∃ W0, W0 = wr.alloc (.cells #[.int .i64 x0, .int .i64 x1, .int .i64 x2] 91) := ⟨_, rfl⟩
          have hk0 := Bk.new wr 91 #[.int .i64 x0, .int .i64 x1, .int .i64 x2]
          have hB0 : Below W4.heap.size W4 W0 := by rw [hW0]; exact hB.alloc hB.size _
          rw [← hW0] at hk0 ⊢
          have c0 : W0.cell? ⟨wr.heap.size, 0, none⟩ = some (.int .i64 x0) := hk0.cell 0
          have c1 : W0.cell? ⟨wr.heap.size, 1, none⟩ = some (.int .i64 x1) := hk0.cell 1
          have c2 : W0.cell? ⟨wr.heap.size, 2, none⟩ = some (.int .i64 x2) := hk0.cell 2
          clear hW0 hk0
          go_region_held3 (fun w' => w'.cell? ⟨wr.heap.size, 0, none⟩ = some (.int .i64 x0) ∧ w'.cell? ⟨wr.heap.size, 1, none⟩ = some (.int .i64 x1) ∧ w'.cell? ⟨wr.heap.size, 2, none⟩ = some (.int .i64 x2) ∧ Below W0.heap.size W0 w')
            (first | (have hB9 := below_tr (by assumption : _ ∧ _ ∧ _ ∧ Below W0.heap.size W0 _).2.2.2 hb'; exact ⟨keep_cell hB9 c0, keep_cell hB9 c1, keep_cell hB9 c2, hB9⟩) | (exact ⟨c0, c1, c2, (Below.refl _ _).drew⟩)) (first
            | (go_at_call 30; refine (int_any _ _ (by assumption)).mono ?_; rintro e w' ⟨rfl, hb'⟩))
          have hBz := (by assumption : _ ∧ _ ∧ _ ∧ Below W0.heap.size W0 _).2.2.2
          go_wp2_with fail
          exact ⟨⟨k + 1, by omega, by go_num, by rw [HSx.out], hB0.trans (hBz.mono hB0.size)⟩, by simp [intOf]; omega⟩
        · rw [List.take_of_length_le (show h11l.length ≤ k by omega)]
          go_wp2_with fail
          go_ret
          exact ⟨by rw [HR.out]; rfl, hB4.trans (hB.mono hB4.size)⟩
end Go.Proofs.Ythdjfcfbmmmmcaa
