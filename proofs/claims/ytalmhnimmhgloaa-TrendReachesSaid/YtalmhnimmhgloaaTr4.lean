/-
  The contract of package trend's Fit, at samples that may be. Conditions: those named in each.
-/
import Derived.Test.YtalmhnimmhgloaaTr3
import Derived.StillTailTactics
import Derived.RegionTactic
import Derived.BigRegion
namespace Go.Proofs.Ytalmhnimmhgloaa
open Go.RowKit Go.Proofs.Mem LineLaw
set_option linter.unusedVariables false
set_option linter.unusedSimpArgs false
def lastAt (l : List Smp) : Int := (l[l.length - 1]?.map Smp.at').getD 0
theorem lastAt_eq (l : List Smp) (h : 0 < l.length) : lastAt l = (l[l.length - 1]'(by omega)).at' := by
  unfold lastAt
  rw [List.getElem?_eq_getElem (by omega)]
  rfl
/-- What Fit answers. -/
def lineV (n f z x y ov un : Int) : Value := .agg #[.int .i64 n, .int .i64 f, .int .i64 z, .int .i64 x, .int .i64 y, .int .i64 ov, .int .i64 un]
def FitIs (l : List Smp) (w : World) (e : Ending) (w' : World) : Prop := e = .returned (.tuple #[lineV l.length (first l) (lastAt l) (T l (first l) l.length).x (T l (first l) l.length).y (T l (first l) l.length).over (T l (first l) l.length).under, .int .i64 0]) ∧ Below w.heap.size w w'
set_option maxHeartbeats 2000000 in
set_option maxRecDepth 100000 in
theorem fit_any (l : List Smp) (v : Value) (w : World) (h : OkL l) (hv : Sl w 2 v l.length (l.flatMap Smp.cells)) :
    Calls Try.prog 26 #[v] w (FitIs l w) := by
  have h2 := h.two
  have hm := h.most
  obtain ⟨A, cp, rfl, hcp, _⟩ := id hv
  have i2 : (2 : Int) ≤ l.length := by omega
  have i3 : (l.length : Int) ≤ 32 := by omega
  have HV := Lib.hid hv
  have H := Lib.hid h
  clear hv h
  go_enter Try.func26, Try.ntmps26
  go_wp2_with fail
  have kR := Bk.new w 65 #[.int .i64 0, .int .i64 0, .int .i64 0, .int .i64 0, .int .i64 0, .int .i64 0, .int .i64 0]
  have hv1 := HV.out.alloc (.cells #[.int .i64 0, .int .i64 0, .int .i64 0, .int .i64 0, .int .i64 0, .int .i64 0, .int .i64 0] 65)
  have hB1 := below_al w (.cells #[.int .i64 0, .int .i64 0, .int .i64 0, .int .i64 0, .int .i64 0, .int .i64 0, .int .i64 0] 65)
  generalize w.alloc (.cells #[.int .i64 0, .int .i64 0, .int .i64 0, .int .i64 0, .int .i64 0, .int .i64 0, .int .i64 0] 65) = w1 at kR hv1 hB1 ⊢
  refine (check_any l _ w1 H.out hv1).mono ?_
  rintro e w2 ⟨rfl, hb2⟩
  have kR2 := kR.below' hb2
  have hv2 := hv1.below hb2
  have hB2 := hB1.trans (hb2.mono hB1.size)
  clear kR hv1 hB1 hb2
  obtain ⟨b, o, rfl, hbl, _, hcell⟩ := Sl.row' (f := Smp.cells) (fun _ => rfl) (by omega) hv2 0 (by omega)
  have a0 : w2.cell? ⟨b, o + 0 * 2, none⟩ = _ := hcell 0 _ rfl
  rw [Nat.zero_mul, Nat.add_zero, ← first_eq l (by omega)] at a0
  obtain ⟨b2, o2, eA, _, _, hcell2⟩ := Sl.row' (f := Smp.cells) (fun _ => rfl) (by omega) hv2 (l.length - 1) (by omega)
  injection eA with eA
  injection eA with e1 e2 e3
  subst e1; subst e2
  have d0 : w2.cell? ⟨b, o + (l.length - 1) * 2, none⟩ = _ := hcell2 0 _ rfl
  rw [← lastAt_eq l (by omega)] at d0
  have hf := H.out.first0
  have q1 : IntKind.i64.wrap ((l.length : Int) - 1) = ((l.length - 1 : Nat) : Int) := by rw [IntWalk.i64_in _ (by omega)]; omega
  have q2 : ((l.length - 1 : Nat) : Int) < l.length := by omega
  have q3 : (0 : Int) < l.length := by omega
  clear hcell hcell2
  go_wp2_with fail
  go_region
  go_wp2_with fail
  obtain ⟨W3, hW3⟩ : ∃ W3, W3 = (w2.alloc (Obj.cells #[Value.int IntKind.i64 l.length, Value.int IntKind.i64 (first l), Value.int IntKind.i64 (lastAt l), Value.int IntKind.i64 0, Value.int IntKind.i64 0, Value.int IntKind.i64 0, Value.int IntKind.i64 0] 65)).drew := ⟨_, rfl⟩
  rw [← hW3]
  have kF : Bk W3 w2.heap.size 65 #[.int .i64 l.length, .int .i64 (first l), .int .i64 (lastAt l), .int .i64 0, .int .i64 0, .int .i64 0, .int .i64 0] := by rw [hW3]; exact (Bk.new w2 _ _).drew
  have kR3 : Bk W3 w.heap.size 65 #[.int .i64 0, .int .i64 0, .int .i64 0, .int .i64 0, .int .i64 0, .int .i64 0, .int .i64 0] := by rw [hW3]; exact (kR2.alloc _).drew
  have hv3 : Sl W3 2 (.slice (some ⟨b, o, none⟩) l.length cp) l.length (l.flatMap Smp.cells) := by rw [hW3]; exact (hv2.alloc _).drew
  have hB3 : Below w.heap.size w W3 := by rw [hW3]; exact (hB2.alloc hB2.size _).drew
  have hBv : Below w2.heap.size w2 W3 := by rw [hW3]; exact ((Below.refl _ _).alloc (Nat.le_refl _) _).drew
  have hlR : w.heap.size < w2.heap.size := kR2.lt
  have hsz : W3.heap.size = w2.heap.size + 1 := by rw [hW3]; simp
  have SV : Hid (∀ wr : World, Below w2.heap.size W3 wr → W3.heap.size ≤ wr.heap.size → Sl wr 2 (.slice (some ⟨b, o, none⟩) l.length cp) l.length (l.flatMap Smp.cells)) := Lib.hid fun wr hBw hle => hv2.keep (by omega) fun p hp => (hBv.trans hBw).cell (p := p) hp
  clear hW3 a0 d0 hv2 hv3 hBv hB2 kR2
  generalize w2.heap.size = fb at *
  go_loopw [6, 7, 10, 11, 34] (fun xx xy _ _ i wr => ∃ (k : Nat), k ≤ l.length ∧ i = .int .i64 k ∧ xx = .int .i64 (T l (first l) k).xx ∧ xy = .int .i64 (T l (first l) k).xy ∧ Bk wr fb 65 #[.int .i64 l.length, .int .i64 (first l), .int .i64 (lastAt l), .int .i64 (T l (first l) k).x, .int .i64 (T l (first l) k).y, .int .i64 0, .int .i64 0] ∧ Below fb W3 wr ∧ W3.heap.size ≤ wr.heap.size) (fun _ _ _ _ i wr => l.length - (intOf i).toNat)
  case atStart => exact ⟨0, Nat.zero_le _, rfl, rfl, rfl, kF, Below.refl _ _, Nat.le_refl _⟩
  case round =>
    obtain ⟨k, hk, rfl, rfl, rfl, kF4, hBw, hle⟩ := hrel
    have fl := kF4.lt
    by_cases hlt : k < l.length
    · obtain ⟨b2, o2, eA, hbl2, _, hcell2⟩ := Sl.row' (f := Smp.cells) (fun _ => rfl) (by omega) (SV.out wr hBw hle) k hlt
      injection eA with eA
      injection eA with e1 e2 e3
      subst e1; subst e2
      have d0 : wr.cell? ⟨b, o + k * 2, none⟩ = _ := hcell2 0 _ rfl
      have d1 := hcell2 1 _ rfl
      have hT := T_succ l (first l) k hlt
      have hbd := T_bd H.out.few (show k ≤ l.length by omega)
      have hmem := List.getElem_mem hlt
      have x0 := H.out.ge k hlt
      have x1 := H.out.near _ hmem
      have v0 := H.out.v0 _ hmem
      have v1 := H.out.v1 _ hmem
      have t1 := H.out.at1 _ hmem
      have p1 := prod_bd (A := 65536) (B := 65536) (show 0 ≤ l[k].at' - first l by omega) (by omega) (show 0 ≤ l[k].at' - first l by omega) (by omega)
      have p2 := prod_bd (A := 65536) (B := 4294967296) (show 0 ≤ l[k].at' - first l by omega) (by omega) v0 v1
      have HT := Lib.hid hT
      have f1 := kF4.cell 1
      have f3 := kF4.cell 3
      have f4 := kF4.cell 4
      have g3 := kF4.frozen 3
      have g4 := kF4.frozen 4
      obtain ⟨bn, bx0, bx1, by0, by1, bxx0, bxx1, bxy0, bxy1⟩ := hbd
      clear hcell2 hT hmem
      generalize l[k] = s at d0 d1 x0 x1 v0 v1 t1 p1 p2 HT
      generalize T l (first l) k = a at bn bx0 bx1 by0 by1 bxx0 bxx1 bxy0 bxy1 HT f3 f4 kF4 ⊢
      generalize first l = f0 at *
      obtain ⟨x, hx⟩ : ∃ x, x = s.at' - f0 := ⟨_, rfl⟩
      have ex : s.at' - f0 = x := hx.symm
      rw [ex] at p1 p2 HT x1
      have q5 : IntKind.i64.wrap (s.at' - f0) = x := by rw [IntWalk.i64_in _ (by omega)]; omega
      obtain ⟨X2, hX2⟩ : ∃ X2, X2 = x * x := ⟨_, rfl⟩
      obtain ⟨XY, hXY⟩ : ∃ XY, XY = x * s.v := ⟨_, rfl⟩
      have HX2 := Lib.hid hX2
      have HXY := Lib.hid hXY
      have HX := Lib.hid hx
      rw [← hX2] at p1
      rw [← hXY] at p2
      obtain ⟨p10, p11⟩ := p1
      obtain ⟨p20, p21⟩ := p2
      have x00 : 0 ≤ x := by omega
      have k5 : (k : Int) ≤ 32 := by omega
      have bx2 : a.x ≤ 2097152 := by omega
      have by2 : a.y ≤ 137438953472 := by omega
      have bxx2 : a.xx ≤ 137438953472 := by omega
      have bxy2 : a.xy ≤ 9007199254740992 := by omega
      have BN := Lib.hid bn
      clear hx hX2 hXY ex x0 bx1 by1 bxx1 bxy1 bn
      go_wp2_with fail
      have kS := Bk.new wr 71 #[.int .i64 s.at', .int .i64 s.v]
      have kF5 := kF4.alloc (.cells #[.int .i64 s.at', .int .i64 s.v] 71)
      have hBw5 : Below fb W3 (wr.alloc (.cells #[.int .i64 s.at', .int .i64 s.v] 71)) := hBw.alloc (by omega) _
      have hle5 : W3.heap.size ≤ (wr.alloc (.cells #[.int .i64 s.at', .int .i64 s.v] 71)).heap.size := by simp; omega
      generalize wr.alloc (.cells #[.int .i64 s.at', .int .i64 s.v] 71) = W5 at kS kF5 hBw5 hle5 ⊢
      clear f1 f3 f4 g3 g4
      have s0 := kS.cell 0
      have s1 := kS.cell 1
      have f1 := kF5.cell 1
      go_quiet (fail)
      have f3 := kF5.cell 3
      have f4 := kF5.cell 4
      have g3 := kF5.frozen 3
      have g4 := kF5.frozen 4
      have eX2 := HX2.out.symm
      have eXY := HXY.out.symm
      go_wp2_with fail
      refine ⟨⟨k + 1, by omega, by go_num, ?_, ?_, ?_, ((below_drewN hBw5 nq).setCell (Nat.le_refl _) _).setCell (Nat.le_refl _) _, ?_⟩, by simp [intOf]; omega⟩
      · rw [HT.out, HX2.out]; rfl
      · rw [HT.out, HXY.out]; rfl
      · rw [HT.out]
        have kD : Bk (W5.drewN nq) fb 65 _ := kF5
        have := (kD.set 3 (.int .i64 (a.x + x))).set 4 (.int .i64 (a.y + s.v))
        simpa [S.add] using this
      · simp only [World.setCell, World.drewN] at hle5 ⊢
        simpa using hle5
    · obtain rfl : k = l.length := by omega
      have g := H.out.good
      have hbd := T_bd H.out.few (Nat.le_refl l.length)
      have HF : Hid (∀ w', Below w.heap.size w w' → FitIs l w (.returned (.tuple #[lineV l.length (first l) (lastAt l) (T l (first l) l.length).x (T l (first l) l.length).y (T l (first l) l.length).over (T l (first l) l.length).under, .int .i64 0])) w') := Lib.hid fun w' hb => ⟨rfl, hb⟩
      have f0 := kF4.cell 0
      have f1 := kF4.cell 1
      have f2 := kF4.cell 2
      have f3 := kF4.cell 3
      have f4 := kF4.cell 4
      have f5 := kF4.cell 5
      have f6 := kF4.cell 6
      have g5 := kF4.frozen 5
      have g6 := kF4.frozen 6
      obtain ⟨bn, bx0, bx1, by0, by1, bxx0, bxx1, bxy0, bxy1⟩ := hbd
      generalize T l (first l) l.length = a at bn bx0 bx1 by0 by1 bxx0 bxx1 bxy0 bxy1 HF f3 f4 kF4 g ⊢
      have p1 := prod_bd (A := 32) (B := 9007199254740992) (show 0 ≤ (l.length : Int) by omega) (by omega) bxy0 (by omega)
      have p2 := prod_bd (A := 2097152) (B := 137438953472) bx0 (by omega) by0 (by omega)
      have p3 := prod_bd (A := 32) (B := 137438953472) (show 0 ≤ (l.length : Int) by omega) (by omega) bxx0 (by omega)
      have p4 := prod_bd (A := 2097152) (B := 2097152) bx0 (by omega) bx0 (by omega)
      obtain ⟨P1, hP1⟩ : ∃ P1, P1 = (l.length : Int) * a.xy := ⟨_, rfl⟩
      obtain ⟨P2, hP2⟩ : ∃ P2, P2 = a.x * a.y := ⟨_, rfl⟩
      obtain ⟨P3, hP3⟩ : ∃ P3, P3 = (l.length : Int) * a.xx := ⟨_, rfl⟩
      obtain ⟨P4, hP4⟩ : ∃ P4, P4 = a.x * a.x := ⟨_, rfl⟩
      rw [← hP1] at p1
      rw [← hP2] at p2
      rw [← hP3] at p3
      rw [← hP4] at p4
      have ho : a.over = P1 - P2 := by unfold S.over; rw [bn, hP1, hP2]
      have hu : a.under = P3 - P4 := by unfold S.under; rw [bn, hP3, hP4]
      rw [ho, hu] at HF
      have e1 := hP1.symm
      have e2 := hP2.symm
      have e3 := hP3.symm
      have e4 := hP4.symm
      obtain ⟨p10, p11⟩ := p1
      obtain ⟨p20, p21⟩ := p2
      obtain ⟨p30, p31⟩ := p3
      obtain ⟨p40, p41⟩ := p4
      clear hP1 hP2 hP3 hP4 ho hu bn bx1 by1 bxx1 bxy1 g
      have hRr := kR3.below hBw hlR
      have r0 := hRr.cell 0
      have z0 := hRr.frozen 0
      have r1 := hRr.cell 1
      have z1 := hRr.frozen 1
      have r2 := hRr.cell 2
      have z2 := hRr.frozen 2
      have r3 := hRr.cell 3
      have z3 := hRr.frozen 3
      have r4 := hRr.cell 4
      have z4 := hRr.frozen 4
      have r5 := hRr.cell 5
      have z5 := hRr.frozen 5
      have r6 := hRr.cell 6
      have z6 := hRr.frozen 6
      have hne : ¬ w.heap.size = fb := by omega
      have hne2 : ¬ fb = w.heap.size := by omega
      go_wp2_with fail
      refine bodyPost_ret (v := .tuple #[lineV l.length (first l) (lastAt l) a.x a.y (P1 - P2) (P3 - P4), .int .i64 0]) (by simp [results, Try.results26, go_sem, lineV, r0, r1, r2, r3, r4, r5, r6, hne, hne2]) rfl (HF.out _ ?_)
      have hB4 := hB3.trans (hBw.mono (show w.heap.size ≤ fb by omega))
      exact ((((((((hB4.setCell (by simp; omega) _).setCell (by simp; omega) _).setCell (Nat.le_refl _) _).setCell (Nat.le_refl _) _).setCell (Nat.le_refl _) _).setCell (Nat.le_refl _) _).setCell (Nat.le_refl _) _).setCell (Nat.le_refl _) _).setCell (Nat.le_refl _) _
end Go.Proofs.Ytalmhnimmhgloaa
