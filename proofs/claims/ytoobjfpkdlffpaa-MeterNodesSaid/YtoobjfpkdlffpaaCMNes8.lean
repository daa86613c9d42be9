/-
  MeterNodes: the walk of (*Meter).Nodes, of any store of at most so many objects and any meter.; MeterNodes: the walk of (*Meter).All.; MeterNodes: the law's closure that counts a group's nodes.; MeterNodes, plain words: what two looks and a reading make of each subject.; MeterNodes: the frames and the invariants of the law's last loops.; MeterNodes: the law's walk.; The walk of the statement MeterNodes, at its arguments as they are read.
-/
import Derived.Test.YtoobjfpkdlffpaaCMNes7
import Derived.Test.YtoobjfpkdlffpaaIter
import Derived.Maps.RangeWalk
import Derived.StringKeys
import Derived.Test.YtoobjfpkdlffpaaCMNes5
section
namespace Go.Proofs.Ytoobjfpkdlffpaa
open Go.RowKit Go.Proofs.Mem
open Go.Maps (Keyed string_keyed)
open Go.WideMaps (keyOf_string_mk)
set_option linter.unusedVariables false
set_option linter.unusedSimpArgs false
attribute [local go_sem] Oper.semAt_some
theorem zeroI64 (w : World) : (zeroValue 2).run Try.prog w = .ok (.int .i64 0) w := by kernel_rfl
set_option maxRecDepth 100000 in
def nG (m p bz q2 : Nat) (now : Int) (f : Nat → Value) : Array Value := #[.pointer (some ⟨m, 0, none⟩), .pointer (some ⟨p, 0, none⟩), .int .i64 now, f 3, f 4, f 5, f 6, f 7, .pointer (some ⟨bz + 1, 0, none⟩), f 9, .pointer (some ⟨q2, 0, none⟩), f 11, f 12, f 13, f 14, f 15, f 16, f 17, f 18, f 19, f 20, f 21, f 22, f 23, f 24, f 25, f 26, f 27, f 28, f 29, f 30, f 31, f 32, f 33, f 34, f 35, f 36, f 37, f 38, f 39, f 40, f 41, f 42, f 43, f 44, f 45, f 46, f 47, f 48, f 49, f 50, f 51, f 52, f 53, f 54, f 55, f 56, f 57, f 58, f 59, f 60, f 61, f 62, f 63, f 64, f 65]
set_option maxRecDepth 100000 in
def nH (m p bz q2 : Nat) (now : Int) (g : ByteArray) (f : Nat → Value) : Array Value := #[.pointer (some ⟨m, 0, none⟩), .pointer (some ⟨p, 0, none⟩), .int .i64 now, f 3, f 4, f 5, f 6, f 7, .pointer (some ⟨bz + 1, 0, none⟩), f 9, .pointer (some ⟨q2, 0, none⟩), .string g, f 12, f 13, f 14, f 15, f 16, f 17, f 18, f 19, f 20, f 21, f 22, f 23, f 24, f 25, f 26, f 27, f 28, f 29, f 30, f 31, f 32, f 33, f 34, f 35, f 36, f 37, f 38, f 39, f 40, f 41, f 42, f 43, f 44, f 45, f 46, f 47, f 48, f 49, f 50, f 51, f 52, f 53, f 54, f 55, f 56, f 57, f 58, f 59, f 60, f 61, f 62, f 63, f 64, f 65]
theorem nH_of {m p bz q2 : Nat} {now : Int} {g : ByteArray} (t : Array Value) (h : t = nH m p bz q2 now g (fun i => t.getD i undef)) : ∃ f, (⟨t, []⟩ : Act) = ⟨nH m p bz q2 now g f, []⟩ := ⟨_, by rw [← h]⟩
def SzIs (cl : List Ob) (H : List UInt8 → Bool) (n bz j : Nat) (W : World) : Prop :=
  ∃ nz Dz, Mp Try.prog W 9 bz nz Dz ∧ nz ≤ n + j ∧ (∀ k, Maps.has Dz (.string k) = (H k || decide (0 < cntG cl k j))) ∧ ∀ k, valAt Dz (.string k) (.int .i64 0) = .int .i64 (cntG cl k j)
theorem SzIs.grown {cl : List Ob} {H : List UInt8 → Bool} {n bz j : Nat} {W W' : World} (h : SzIs cl H n bz j W) {row : Option Nat} (hg : W.grownBy W' row) (hn : some bz ≠ row) : SzIs cl H n bz j W' := by
  obtain ⟨nz, Dz, h1, h2⟩ := h
  exact ⟨nz, Dz, h1.grown hg hn, h2⟩
theorem SzIs.below {cl : List Ob} {H : List UInt8 → Bool} {n bz j : Nat} {W W' : World} (h : SzIs cl H n bz j W) (hb : Below W.heap.size W W') : SzIs cl H n bz j W' := by
  obtain ⟨nz, Dz, h1, h2⟩ := h
  exact ⟨nz, Dz, h1.below hb, h2⟩
structure IsNR (w : World) (cl : List Ob) (H : List UInt8 → Bool) (n z : Nat) (pre : List Ob) (W : World) : Prop where
  bx : Bk W (w.heap.size + 1) 104 #[.map (some w.heap.size)]
  mz : SzIs cl H n w.heap.size pre.length W
  low : Below w.heap.size w W
  zs : z ≤ W.heap.size
theorem IsNR.own {w : World} {cl : List Ob} {H : List UInt8 → Bool} {n n₀ z : Nat} (hn : w.heap.size + 2 ≤ n₀) : OwnFrom n₀ (IsNR w cl H n z) := fun pre W W' row h hg hr =>
  have hr2 : ∀ r, row = some r → ∃ o : Obj, W.heap[r]? = some o ∧ o.isCells = false := fun r e => (hr r e).2
  { bx := bk_kept h.bx hg hr2
    mz := h.mz.grown hg (fun e => by have := (hr _ e.symm).1; omega)
    low := h.low.grown hg h.low.size fun r e => by have := (hr r e).1; omega
    zs := Nat.le_trans h.zs hg.size }
theorem IsNR.below {w W W' : World} {cl : List Ob} {H : List UInt8 → Bool} {n z : Nat} {pre : List Ob} (h : IsNR w cl H n z pre W) (hb : Below W.heap.size W W') : IsNR w cl H n z pre W' :=
  ⟨h.bx.below' hb, h.mz.below hb, below_tr h.low hb, Nat.le_trans h.zs hb.size⟩
def IsNAx (cl : List Ob) (m p bz z : Nat) (now : Int) (pre : List Ob) (x : Ob) (a : Act) (W : World) : Prop :=
  ∃ q2 f, a = ⟨nG m p bz q2 now f, []⟩ ∧ z ≤ q2 ∧ Bk W q2 57 x.cells.toArray ∧ KnL cl 2 pre x W
theorem isNAx_intro {cl : List Ob} {m p bz z : Nat} {now : Int} {pre : List Ob} {x : Ob} {W : World} (t : Array Value) (q2 : Nat) (h : t = nG m p bz q2 now (fun i => t.getD i undef)) (hq : z ≤ q2) (hb : Bk W q2 57 x.cells.toArray) (hk : KnL cl 2 pre x W) : IsNAx cl m p bz z now pre x ⟨t, []⟩ W :=
  ⟨q2, _, by rw [← h], hq, hb, hk⟩
theorem size_step {cl : List Ob} {H : List UInt8 → Bool} {j : Nat} {Dz : DataW Value} {z : Ob} {g : List UInt8} (hu : (keys cl).Nodup) (hz : z ∈ cl) (hk : z.kind = 2) (hn : (nms cl 2)[j]? = some z.name.data.toList) (hg : (gname z).data.toList = g)
    (hD : Maps.IsMap Dz) (h1 : ∀ k, Maps.has Dz (.string k) = (H k || decide (0 < cntG cl k j))) (h2 : ∀ k, valAt Dz (.string k) (.int .i64 0) = .int .i64 (cntG cl k j)) :
    (∀ k, Maps.has (Dz.put (.string g) (.held (.int .i64 ((cntG cl g j + 1 : Nat) : Int)))) (.string k) = (H k || decide (0 < cntG cl k (j + 1)))) ∧ ∀ k, valAt (Dz.put (.string g) (.held (.int .i64 ((cntG cl g j + 1 : Nat) : Int)))) (.string k) (.int .i64 0) = .int .i64 (cntG cl k (j + 1)) := by
  have hc : ∀ k, cntG cl k (j + 1) = cntG cl k j + (if g = k then 1 else 0) := by
    intro k
    unfold cntG
    rw [cntP_next hu hz hk hn]
    unfold inGrp
    rw [hg]
    by_cases e : g = k <;> simp [e]
  refine ⟨fun k => ?_, fun k => ?_⟩
  · by_cases e : k = g
    · subst e
      rw [Maps.has_put_same hD (keyLit_string _), hc, if_pos rfl]
      simp
    · rw [Maps.has_put_other (by intro h; injection h with h; exact e h), h1, hc, if_neg (fun h => e h.symm)]
      rfl
  · by_cases e : k = g
    · subst e
      rw [valAt_put_same hD (keyLit_string _), hc, if_pos rfl]
    · rw [valAt_put_other (by intro h; injection h with h; exact e h), h2, hc, if_neg (fun h => e h.symm)]
      rfl
set_option maxHeartbeats 8000000 in
set_option maxRecDepth 100000 in
theorem nodes_any {B : Nat} {w : World} {p b : Nat} {most : Int} {evs : List Ev} {cl : List Ob} (M : S8 B w p b most evs cl) (hcl : cl.length ≤ 100) {m mb n last : Nat} {H : List UInt8 → Bool} {f : List UInt8 → Nat × Nat × Nat} (hM : MtF w m mb n last H f) (now : Nat) (q2 : last ≤ now) (q3 : now ≤ 200000) (hn : n ≤ 100)
    (hf1 : ∀ k, (f k).1 * (now - (f k).2.1) + (f k).2.2 ≤ 1000000000000) :
    Calls Try.prog 17 #[.pointer (some ⟨m, 0, none⟩), .pointer (some ⟨p, 0, none⟩), .int .i64 now] w fun e w' => e = .returned (.int .i64 0) ∧ (∃ n' last', n' ≤ n + (n + cl.length) ∧ last' ≤ now ∧
      MtF w' m mb n' last' (fun k => H k || decide (0 < cntG cl k (nms cl 2).length)) (fun k => if H k || decide (0 < cntG cl k (nms cl 2).length) then (cntG cl k (nms cl 2).length, now, (f k).1 * (now - (f k).2.1) + (f k).2.2) else f k)) ∧ Tch (fun j => j = mb ∨ j = m) w w' := by
  have HM := Lib.hid (And.intro M hcl)
  have HT := Lib.hid hM
  have HB := Lib.hid (And.intro q2 (And.intro q3 (And.intro hn hf1)))
  obtain ⟨D, hMt, hH, hf, hnm, hbd⟩ := id hM
  have CT := Lib.hid (tick_ok w m mb n last now D hMt q2 (by omega))
  have HD := Lib.hid (And.intro hMt (And.intro hH (And.intro hf (And.intro hnm hbd))))
  clear M hcl hM hMt hH hf hnm hbd q2 q3 hn hf1
  refine (callsIn_wide (n := 7)).1 ?_
  refine callsIn_of_wp_marks Try.func17 rfl trivial ?_ rfl
  simp only [Try.ntmps17, List.size_toArray, List.length_cons, List.length_nil, Nat.reduceAdd, Nat.reduceSub, Array.replicate_succ, Array.replicate_zero, List.push_toArray, List.append_toArray, List.nil_append, List.cons_append]
  refine wpIn_seq ?_
  refine wpIn_wide.2 ?_
  refine wp_hide fun QA HQA => ?_
  go_wp2_with fail
  rw [HQA.out]
  simp only [Exit.then]
  clear HQA
  refine wpIn_seq ?_
  refine wpIn_wide.2 ?_
  refine wp_hide fun QB HQB => ?_
  go_wp2_with fail
  rw [HQB.out]
  simp only [Exit.then]
  clear HQB
  refine wpIn_seq ?_
  refine wpIn_wide.2 ?_
  refine wp_hide fun QC HQC => ?_
  go_wp2_with fail
  refine CT.out.mono ?_
  rintro e w' ⟨rfl, rfl⟩
  go_wp2_with fail
  rw [HQC.out]
  simp only [Exit.then]
  clear HQC CT
  have hmm := @run_makeMap Try.prog
  refine wpIn_seq ?_
  refine wpIn_wide.2 ?_
  refine wp_hide fun QD HQD => ?_
  go_wp2_with fail
  rw [HQD.out]
  simp only [Exit.then]
  clear HQD
  clear hmm
  obtain ⟨W0, hW0⟩ : ∃ W0, W0 = (w.alloc (.map #[] 0)).alloc (.cells #[.map (some w.heap.size)] 104) := ⟨_, rfl⟩
  have s1 : Mp Try.prog W0 9 w.heap.size 0 (.map []) := by rw [hW0]; exact (Mp.made w Try.prog 9).alloc _
  have s2 : Bk W0 (w.heap.size + 1) 104 #[.map (some w.heap.size)] := by
    have h := Bk.new (w.alloc (.map #[] 0)) 104 #[.map (some w.heap.size)]
    rw [World.size_alloc] at h
    rw [hW0]
    exact h
  have s3 : Below w.heap.size w W0 := by
    rw [hW0]
    exact below_tr (below_al _ _) (below_al _ _)
  have s4 : W0.heap.size = w.heap.size + 2 := by rw [hW0]; simp
  rw [← hW0]
  have HS := Lib.hid (And.intro s1 (And.intro s2 (And.intro s3 s4)))
  clear hW0 s1 s2 s3 s4
  have hmp0 := HD.out.1.2.2.below HS.out.2.2.1
  have e0 := (HD.out.1.2.1.below' HS.out.2.2.1).cell 0
  refine wpIn_seq ?_
  refine wpIn_wide.2 ?_
  refine wp_hide fun QE HQE => ?_
  go_wp2_with (at_range; refine wpList_range_own _ rfl _ 100 rfl 9 111 strK Try.underlying100 asIs mb n D rfl hmp0 ?_; intro w0 hrg0 hg0 hs0)
  go_frame
  have hB0 : Below W0.heap.size W0 w0 := ⟨hg0.os, hg0.tape, hg0.output, hg0.size, fun i hi => hg0.block i hi (by simp)⟩
  have hst0 : Hid (w0.ranges Try.prog 9 asIs mb W0.heap.size n D (Maps.has D) (Maps.size D) ∧ Mp Try.prog w0 9 w.heap.size 0 (.map []) ∧ 0 + Maps.size D ≤ n ∧ (∀ k, Maps.has (.map [] : DataW Value) (.string k) = (H k && !Maps.has D (.string k))) ∧ (∀ k, valAt (.map []) (.string k) (.int .i64 0) = .int .i64 0) ∧ (∀ kl, Maps.has D kl = true → Maps.has D kl = true) ∧ Bk w0 (w.heap.size + 1) 104 #[.map (some w.heap.size)] ∧ Below w.heap.size w w0 ∧ W0.heap.size < w0.heap.size) := by
    refine ⟨hrg0, HS.out.1.below hB0, by have := hmp0.size_le; omega, fun k => ?_, fun k => rfl, fun _ h => h, HS.out.2.1.below' hB0, below_tr HS.out.2.2.1 hB0, by omega⟩
    rw [HD.out.2.1 k]
    cases H k <;> rfl
  clear hrg0 hg0 hs0 hB0 e0
  go_wp2_with fail
  go_loopw [9] (fun v9 W => ∃ (left : Lit → Bool) (cn nz : Nat) (Dz : DataW Value), Hid (W.ranges Try.prog 9 asIs mb W0.heap.size n D left cn ∧ Mp Try.prog W 9 w.heap.size nz Dz ∧ nz + cn ≤ n ∧ (∀ k, Maps.has Dz (.string k) = (H k && !left (.string k))) ∧ (∀ k, valAt Dz (.string k) (.int .i64 0) = .int .i64 0) ∧ (∀ kl, left kl = true → Maps.has D kl = true) ∧ Bk W (w.heap.size + 1) 104 #[.map (some w.heap.size)] ∧ Below w.heap.size w W ∧ W0.heap.size < W.heap.size)) (fun _ W => W.rangeLeft mb W0.heap.size)
  case atStart => exact ⟨_, _, 0, _, hst0⟩
  case round =>
    clear hst0
    obtain ⟨left, cn, nz, Dz, hE⟩ := hrel
    go_wp2_with (at_next; refine wpList_next_ranges _ rfl _ rfl 9 strK asIs id id (fun key kl _ => ⟨key, rfl⟩) (fun v y _ => ⟨v, rfl⟩) mb W0.heap.size n D left cn rfl hE.out.1 ?_ ?_)
    · intro hc0 hl0
      go_wp2_with fail
      rw [HQE.out]
      simp only [Exit.then]
      clear HQE
      have hz0 : SzIs cl H n w.heap.size ([] : List Ob).length wr := ⟨nz, Dz, hE.out.2.1, by have := hE.out.2.2.1; simp only [List.length_nil]; omega, fun k => by
          rw [hE.out.2.2.2.1 k, hl0]
          have : cntG cl k ([] : List Ob).length = 0 := cntP_zero
          rw [this]
          simp, fun k => by
          rw [hE.out.2.2.2.2.1 k]
          have : cntG cl k ([] : List Ob).length = 0 := cntP_zero
          rw [this]
          rfl⟩
      have HZ0 := Lib.hid (And.intro hz0 (And.intro hE.out.2.2.2.2.2.2.1 (And.intro hE.out.2.2.2.2.2.2.2.1 (by have := hE.out.2.2.2.2.2.2.2.2; have := HS.out.2.2.2; omega : w.heap.size + 2 < wr.heap.size))))
      clear hz0 hE hc0 hl0
      refine wpIn_seq ?_
      refine wpIn_hide fun QF HQF => ?_
      refine wpIn_seq ?_
      refine wpIn_wide.2 ?_
      refine wp_hide fun QJ HQJ => ?_
      go_wp2_with fail
      refine (list_any p 2 wr).mono ?_
      rintro e V2 ⟨rfl, rfl⟩
      go_wp2_with fail
      rw [HQJ.out]
      simp only [Exit.then]
      clear HQJ
      refine wpIn_block ?_
      obtain ⟨WL, hWL⟩ : ∃ WL, WL = (wr.alloc (.cells #[.pointer (some ⟨p, 0, none⟩)] 23)).alloc (.cells #[.int .i64 2] 3) := ⟨_, rfl⟩
      have l1 := (Bk.new wr 23 #[.pointer (some ⟨p, 0, none⟩)]).alloc (.cells #[.int .i64 2] 3)
      have l2 := Bk.new (wr.alloc (.cells #[.pointer (some ⟨p, 0, none⟩)] 23)) 3 #[.int .i64 2]
      rw [World.size_alloc] at l2
      have lB : Below wr.heap.size wr WL := by
        rw [hWL]
        exact below_tr (below_al _ _) (below_al _ _)
      have lz : WL.heap.size = wr.heap.size + 2 := by rw [hWL]; simp
      rw [← hWL] at l1 l2 ⊢
      clear hWL
      have HL1 := Lib.hid (And.intro l1 (And.intro l2 (And.intro lB lz)))
      clear l1 l2 lB lz
      have HBW : Below w.heap.size w WL := below_tr HZ0.out.2.2.1 HL1.out.2.2.1
      obtain ⟨n2, D2, ev2, st2, R2, hlow2, _, hcl2, hgood2⟩ := id HM.out.1
      have stL := st2.below HBW
      have hlz := HL1.out.2.2.2
      have hwz := HZ0.out.2.2.2
      have hp2 := st2.2.1.lt
      have hb2 := st2.2.2.1.lt
      have hcl9 := HM.out.2
      refine wpIn_rangeFunc_know (n := 7) rfl (by omega) (gf := 30) (lb := #[.pointer (some ⟨wr.heap.size, 0, none⟩), .pointer (some ⟨wr.heap.size + 1, 0, none⟩)]) rfl trivial (enters_of Try.func30 rfl rfl)
        (list_knows (p := p) (b := b) (n := n2) (D := D2) (F := fun j => j = w.heap.size) (cl := cl) 6 (by omega) 2 ?hcl WL ?hp ?hmp ?hR ?hbs ?hbk ?hF) KeepL.trans ?hKb (Below.refl _ _) (fun _ => rfl)
        (IsNR w cl H n WL.heap.size) (fun _ _ _ => False) ?hI (fun _ _ _ _ _ hs _ _ => hs) ?h0 (IsNAx cl m p w.heap.size WL.heap.size now) ?hAx ?assign ?body ?done ?stop
      case hcl => omega
      case hp => exact stL.cells.2.1
      case hmp => exact stL.2.2.1
      case hR => exact {
        size := R2.size
        at1 := fun x hx => by
          obtain ⟨h1, y, h2, h3, h4⟩ := R2.at1 x hx
          exact ⟨h1, y, h2, safe_less (safe_old h3.ok HBW) (fun j hj => Nat.le_of_eq hj.symm), h4⟩
        at0 := R2.at0
        ok := R2.ok
        uniq := R2.uniq }
      case hbs => exact HL1.out.1.cell 0
      case hbk => exact HL1.out.2.1.cell 0
      case hF => exact ⟨by omega, by omega, by omega, by omega⟩
      case hKb => exact fun W l o o' hl ho hc hw => KeepL.put W l o o' hl ho hc hw
      case hI => exact IsNR.own (by omega)
      case h0 => exact ⟨HZ0.out.2.1.below' HL1.out.2.2.1, HZ0.out.1.below HL1.out.2.2.1, HBW, Nat.le_refl _⟩
      case hAx =>
        rintro pre x a' s A A' row ⟨q', f', e, hq', hb', z, hz, k1, k2, k3, ho⟩ hg hr
        have hr2 : ∀ r, row = some r → ∃ o : Obj, A.heap[r]? = some o ∧ o.isCells = false := fun r e => (hr r e).2
        exact ⟨q', f', e, hq', bk_kept hb' hg hr2, z, hz, k1, k2, k3, ok_kept ho hg hr2⟩
      case assign =>
        intro l pre x A K hA hKn hK
        have h47 : Is47 x.cells.toArray := cells_is x (by obtain ⟨z, hz, h1, h2, h3, h4⟩ := hKn; exact h4)
        have kz := Bk.new A 57 Z47
        refine wpIn_region_lit ?_
        refine wplI_run (fun _ => trivial) (fun ev => Oper.semAt_some _ _ _ (by intro c h; cases h)) rfl (run_alloc47 rfl _) ?_
        refine wplI_storeg (cs := x.cells.toArray) (fun _ => trivial) (fun ev => Oper.semAt_some _ _ _ (by intro c h; cases h)) kz (by rw [h47.1]; rfl) rfl rfl 57 (.tmp 10) (.tmp 37) rfl (by kernel_rfl) (by kernel_rfl) (info47 h47) h47.2 ?_
        have k2 := setCells_whole kz (show Z47.size = x.cells.toArray.size by rw [h47.1]; rfl)
        have b2 : Below A.heap.size A ((A.alloc (.cells Z47 57)).setCells A.heap.size 0 x.cells.toArray.toList) := below_setCells (g := A.heap.size) x.cells.toArray.toList 0 (below_al A _) (Nat.le_refl _)
        have hzs := hA.zs
        exact hK _ _ ⟨b2.size, fun j o _ hj _ => (b2.block j (Array.getElem?_eq_some_iff.1 hj).1).trans hj⟩ (KeepL.of_below b2 (by omega)) (hA.below b2) (isNAx_intro _ A.heap.size (by kernel_rfl) hzs k2 (hKn.below b2))
      case body =>
        rintro l pre x _ A hl hlo hA ⟨q2, f', rfl, hq2, hbq, hKn⟩
        unfold nG
        obtain ⟨z, hz, hzk, hzn, hnf, hok⟩ := id hKn
        have hgz : gname x = gname z := gname_nf hnf
        have hgr := group_nf hnf
        obtain ⟨nz', Dz', hmz, hnz, hh, hv⟩ := hA.mz
        have e8 := hA.bx.cell 0
        have eg : A.cell? ⟨q2, 20, none⟩ = some (.string x.n.group) := hbq.cell 20
        obtain ⟨g, hg⟩ : ∃ g, g = gname x := ⟨_, rfl⟩
        have hgn : nmB g = true := by
          rw [hg, hgz]
          exact node_group hzk (hgood2 z hz)
        have hkey := keyOf_string_mk Try.underlying9 (s := g) (by have := (nm_sz hgn).1; unfold maxLen; omega)
        have hcl3 : (nms cl 2).length ≤ cl.length := nms_le
        have hpl : pre.length < (nms cl 2).length := (List.getElem?_eq_some_iff.1 hzn).1
        have hcle : cntG cl g.data.toList pre.length ≤ cl.length := cntP_le
        have hnz9 : nz' < maxLen := by
          have := HB.out.2.2.1
          unfold maxLen
          omega
        have hstep := size_step (Dz := Dz') (H := H) (g := g.data.toList) R2.uniq hz hzk hzn (by rw [hg, hgz]) hmz.isMap hh hv
        have hval := hv g.data.toList
        have HX := Lib.hid (And.intro hA (And.intro hl (And.intro hlo (And.intro hnz (And.intro hcle (And.intro hstep (And.intro hnz9 hg)))))))
        clear hg hz hzk hzn hnf hok hgz hgr hh hv hgn hcl3 hpl hcle hnz9 hstep hA hbq hl hlo hnz hKn st2 R2 stL
        refine wpIn_block ?_
        refine wpIn_seq ?_
        refine wpIn_hide fun QP HQP => ?_
        gi_wp2_with fail
        rw [HQP.out]
        simp only [Exit.then]
        clear HQP
        refine wpIn_seq ?_
        refine wpIn_mono (Q := fun e a Z => e = .normal ∧ Z = A ∧ ∃ f, a = ⟨nH m p w.heap.size q2 now g f, []⟩) ?_ ?_
        · refine wpIn_hide fun QY HQY => ?_
          by_cases he : x.n.group = ⟨#[]⟩
          · have hge : g = strNone := by rw [HX.out.2.2.2.2.2.2.2]; unfold gname; rw [if_pos he]
            rw [he]
            gi_wp2_with fail
            rw [HQY.out]
            exact ⟨rfl, rfl, by rw [hge]; exact nH_of _ (by kernel_rfl)⟩
          · have hge : g = x.n.group := by rw [HX.out.2.2.2.2.2.2.2]; unfold gname; rw [if_neg he]
            have hnd := str_ne he
            gi_wp2_with fail
            rw [HQY.out]
            exact ⟨rfl, rfl, by rw [hge]; exact nH_of _ (by kernel_rfl)⟩
        · rintro e a Z ⟨rfl, rfl, f9, rfl⟩
          simp only [Exit.then]
          unfold nH
          obtain ⟨C, hC⟩ : ∃ C, C = cntG cl g.data.toList pre.length := ⟨_, rfl⟩
          have hw9 : wrap64 ((C : Int) + 1) = ((C + 1 : Nat) : Int) := by
            have := HX.out.2.2.2.2.1
            rw [IntWalk.wrap64_in _ (by omega)]
            omega
          have hst := HX.out.2.2.2.2.2.1
          rw [← hC] at hval hst
          have HST := Lib.hid (And.intro hst hw9)
          clear hst hC hw9
          gi_wp2_with (first
            | (refine wplI_look (fun _ => trivial) (fun ev => Oper.semAt_some _ _ _ (by intro c h; cases h)) rfl _ _ 104 rfl 9 2 strK Try.underlying104 zeroI64 w.heap.size nz' Dz' rfl hmz _ _ rfl hkey ?_; rw [hval])
            | (refine wplI_store_map (fun _ => trivial) (fun ev => Oper.semAt_some _ _ _ (by intro c h; cases h)) rfl rfl _ _ _ 104 rfl 9 2 strK Try.underlying104 w.heap.size nz' Dz' rfl hmz HX.out.2.2.2.2.2.2.1 _ (.int .i64 (wrap64 ((C : Int) + 1))) _ rfl rfl hkey ?_; intro w2 hM2 hg2 hs2))
          rw [HST.out.2] at hM2
          have hzs := HX.out.1.zs
          have hpl : (pre ++ [x]).length = pre.length + 1 := by simp
          have hnz := HX.out.2.2.2.1
          have hgb : ∀ i, i < Z.heap.size → i ≠ w.heap.size → w2.heap[i]? = Z.heap[i]? := fun i hi hn => hg2.block i hi (fun e => by injection e with e; exact hn e)
          refine ⟨⟨hg2.size, fun i o hi ho _ => (hgb i (Array.getElem?_eq_some_iff.1 ho).1 (by omega)).trans ho⟩, ⟨hg2.os, hg2.tape, hg2.output, hg2.size, fun i hi hf => hgb i (by omega) hf, fun i o hi ho _ => (hgb i (Array.getElem?_eq_some_iff.1 ho).1 (by omega)).trans ho⟩, ⟨HX.out.1.bx.grown hg2 (by simp), ?_, HX.out.1.low.grown hg2 HX.out.1.low.size fun k e => by injection e with e; omega, Nat.le_trans hzs hg2.size⟩⟩
          rw [hpl]
          exact ⟨nz' + 1, _, hM2, by omega, HST.out.1.1, HST.out.1.2⟩
      case done =>
        intro D9 xs A hD hxs hA hmD
        show QF .normal _ A
        rw [HQF.out]
        simp only [Exit.then]
        have hlx : xs.length = (nms cl 2).length := hxs
        obtain ⟨nz', Dz', hmz, hnz, hh, hv⟩ := hA.mz
        rw [hlx] at hh hv hnz
        have e8 := hA.bx.cell 0
        have hszz := hmz.size_le
        have hcl3 : (nms cl 2).length ≤ cl.length := nms_le
        have hnB := HB.out.2.2.1
        have CK := Lib.hid (fun w1 => callsIn_wide.1 (Try.maps_Keys_37 (some w.heap.size) w1))
        have CS := Lib.hid (callsIn_wide.1 (Try.slices_Sorted_keys_36_37 w.heap.size nz' Dz' asIs A hmz (by unfold maxLen; omega) (by omega)))
        have HZ := Lib.hid (And.intro hA (And.intro hmz (And.intro hnz (And.intro hh (And.intro hv (And.intro hszz (And.intro hmD hD)))))))
        clear hA hmz hnz hh hv hszz hmD hD hlx hxs hcl3 hnB st2 R2 stL hlow2 hcl2
        refine wpIn_seq ?_
        refine wpIn_wide.2 ?_
        refine wp_hide fun QK HQK => ?_
        go_wp2_with fail
        refine (CK.out _).mono ?_
        rintro e w' ⟨rfl, rfl⟩
        go_wp2_with fail
        refine CS.out.mono ?_
        rintro e w1 ⟨v, ss, rfl, hperm, hrow, hnil, hb⟩
        have hB1 : Below A.heap.size A w1 := below_tr (below_al A _) hb
        have hkl := keysL_of HZ.out.2.1 hperm
        have hSl := Sl.of_own hrow
        obtain ⟨l, hl⟩ : ∃ l, l = ss.mergeSort (fun x y => decide (x ≤ y)) := ⟨_, rfl⟩
        rw [← hl] at hkl hSl hrow
        have hll : ss.length = l.length := by rw [hl, List.length_mergeSort]
        rw [hll] at hSl hrow
        have hbase : ∀ ad n' c', v = .slice (some ad) n' c' → ∃ g, ad = ⟨g, 0, none⟩ ∧ A.heap.size ≤ g := fun ad n' c' hv => by
          have := hrow.2
          rcases this with ⟨h1, _⟩ | ⟨g', cap, cur, h1, h2, _⟩
          · rw [h1] at hv; cases hv
          · rw [h1] at hv
            injection hv with hv
            injection hv with hv
            rw [World.size_alloc] at h2
            exact ⟨g', hv.symm, by omega⟩
        obtain ⟨Ar, cr, ev, hcr⟩ := id hSl
        subst ev
        have HS1 := Lib.hid (And.intro hSl (And.intro hkl (And.intro hbase hB1)))
        clear hSl hkl hbase hB1 hrow hll hl hperm hnil hb hcr CK CS e8
        have hMt1 := HT.out.below (below_tr HZ.out.1.low HS1.out.2.2.2 : Below w.heap.size w w1)
        have e8 := (HZ.out.1.bx.below' HS1.out.2.2.2).cell 0
        have hlen9 : l.length ≤ n + (nms cl 2).length := by
          have h1 := HS1.out.2.1.len
          have h2 := HZ.out.2.2.2.2.2.1
          have h3 := HZ.out.2.2.1
          omega
        have hlen8 : l.length ≤ 200 := by
          have h1 : (nms cl 2).length ≤ cl.length := nms_le
          have h2 := HB.out.2.2.1
          omega
        have HLN := Lib.hid (And.intro hlen9 hlen8)
        have h0 : Hid (∃ lst, lst ≤ now ∧ MtF w1 m mb (n + 0) lst (fun k => H k || decide (k ∈ l.take 0)) (fun k => if k ∈ l.take 0 then (cntG cl k (nms cl 2).length, now, (f k).1 * (now - (f k).2.1) + (f k).2.2) else f k) ∧ Tch (fun i => i = mb ∨ i = m) w1 w1) := by
          refine ⟨last, HB.out.1, ?_, Tch.of_below (Below.refl _ _)⟩
          have e1 : (fun k => H k || decide (k ∈ l.take 0)) = H := by funext k; simp
          have e2 : (fun k => if k ∈ l.take 0 then (cntG cl k (nms cl 2).length, now, (f k).1 * (now - (f k).2.1) + (f k).2.2) else f k) = f := by funext k; simp
          rw [e1, e2]
          exact hMt1
        clear hMt1 hlen9 hlen8 hlz hwz hp2 hb2 hcl9
        go_wp2_with fail
        go_loopw [51] (fun vj W => ∃ j : Nat, j ≤ l.length ∧ vj = .int .i64 j ∧ Hid (∃ lst, lst ≤ now ∧ MtF W m mb (n + j) lst (fun k => H k || decide (k ∈ l.take j)) (fun k => if k ∈ l.take j then (cntG cl k (nms cl 2).length, now, (f k).1 * (now - (f k).2.1) + (f k).2.2) else f k) ∧ Tch (fun i => i = mb ∨ i = m) w1 W)) (fun vj _ => l.length - (intOf vj).toNat)
        case atStart => exact ⟨0, Nat.zero_le _, rfl, h0⟩
        case round =>
          clear h0
          obtain ⟨j, hj, rfl, hJ⟩ := hrel
          have hj9 := HLN.out.2
          have hmm := HD.out.1.1
          have hml := HD.out.1.2.1.lt
          have hAw := HZ.out.1.low.size
          obtain ⟨lst, hlst, hMj, hTj⟩ := hJ.out
          by_cases hlt : j < l.length
          · obtain ⟨s, hs⟩ : ∃ s, l[j]? = some s := ⟨_, List.getElem?_eq_getElem hlt⟩
            obtain ⟨ad, e1, hadl, hc⟩ := HS1.out.1.cell1 (k := j) (u := .string ⟨s.toArray⟩) (by rw [List.getElem?_map, hs]; rfl)
            subst e1
            obtain ⟨g, rfl, hg⟩ := HS1.out.2.2.1 ad _ _ rfl
            rw [add_lit, Nat.zero_add] at hc
            have hc2 : wr.cell? ⟨g, j, none⟩ = some (.string ⟨s.toArray⟩) := tch_cell hTj hc (by rintro (h | h) <;> omega)
            have e82 : wr.cell? ⟨w.heap.size + 1, 0, none⟩ = some (.map (some w.heap.size)) := tch_cell hTj e8 (by rintro (h | h) <;> omega)
            have hmz1 := HZ.out.2.1.below HS1.out.2.2.2
            have hmz2 := hmz1.of_block (hTj.2.2.2.2 _ hmz1.lt (by rintro (h | h) <;> omega))
            have hmem : s ∈ l := List.mem_of_getElem? hs
            have hhas := (HS1.out.2.1.mem s).1 hmem
            have hnm9 : nmB ⟨s.toArray⟩ = true := by
              rw [HZ.out.2.2.2.1 s, Bool.or_eq_true] at hhas
              rcases hhas with h | h
              · exact HD.out.2.2.2.1 s h
              · obtain ⟨z, hz, hzk, hzg⟩ := cntP_ex (of_decide_eq_true h)
                have h2 := node_group hzk (hgood2 z hz)
                have h3 : (gname z).data.toList = s := of_decide_eq_true hzg
                have h4 : (⟨s.toArray⟩ : ByteArray) = gname z := by rw [← h3]
                rw [h4]
                exact h2
            have hkey := keyOf_string_mk Try.underlying9 (s := ⟨s.toArray⟩) (by have := (nm_sz hnm9).1; unfold maxLen; omega)
            have hval := HZ.out.2.2.2.2.1 s
            have hcle : cntG cl s (nms cl 2).length ≤ cl.length := cntP_le
            have hnin : s ∉ l.take j := by
              intro hm9
              obtain ⟨i, hi, e⟩ := List.getElem_of_mem hm9
              rw [List.getElem_take] at e
              have hij : i < j := by
                rw [List.length_take] at hi
                omega
              have := List.pairwise_iff_getElem.1 HS1.out.2.1.nd i j (by omega) hlt hij
              exact this (e.trans (List.getElem?_eq_some_iff.1 hs).2.symm)
            obtain ⟨C, hC⟩ : ∃ C, C = cntG cl s (nms cl 2).length := ⟨_, rfl⟩
            have CSet := setF_any hMj s hnm9 C now (by rw [hC]; have := HM.out.2; omega) hlst (by have := HB.out.2.1; omega) (by have := HB.out.2.2.1; omega)
            simp only [if_neg hnin] at CSet
            have CS9 := Lib.hid CSet
            rw [← hC] at hval
            have HJ9 := Lib.hid (And.intro hs (And.intro hC (And.intro hTj (HB.out.2.2.2 s))))
            clear hMj hTj hmz1 hmem hhas hnm9 hcle hnin hC CSet hs hadl hc hJ
            go_wp2_with (at_lookup; refine wpl_look rfl _ _ 104 rfl 9 2 strK Try.underlying104 zeroI64 w.heap.size nz' Dz' rfl hmz2 _ _ rfl hkey ?_; rw [hval])
            refine CS9.out.mono ?_
            rintro e w5 ⟨rfl, hM5, hT5⟩
            have hM6 := hM5 HJ9.out.2.2.2
            have hH6 := step_H (H := H) HJ9.out.1
            have hF6 := step_f (f := f) (g := fun k => (cntG cl k (nms cl 2).length, now, (f k).1 * (now - (f k).2.1) + (f k).2.2)) HJ9.out.1
            rw [hH6] at hM6
            rw [HJ9.out.2.1] at hM6
            rw [hF6] at hM6
            have HE5 : Hid (∃ lst, lst ≤ now ∧ MtF w5 m mb (n + (j + 1)) lst (fun k => H k || decide (k ∈ l.take (j + 1))) (fun k => if k ∈ l.take (j + 1) then (cntG cl k (nms cl 2).length, now, (f k).1 * (now - (f k).2.1) + (f k).2.2) else f k) ∧ Tch (fun i => i = mb ∨ i = m) w1 w5) :=
              ⟨now, Nat.le_refl _, hM6, HJ9.out.2.2.1.trans hT5 fun _ _ h => h⟩
            clear hM5 hT5 hM6 hH6 hF6 CS9 hc2 e82 hmz2 hkey hval
            go_wp2_with fail
            exact ⟨⟨j + 1, by omega, by go_num, HE5⟩, by simp [intOf]; omega⟩
          · have hjl : j = l.length := by omega
            subst hjl
            have hDge := HZ.out.2.2.2.2.2.2.2
            have hwz := HZ0.out.2.2.2
            have hlz := HL1.out.2.2.2
            have hlb := HL1.out.2.2.1.size
            have m9 : wr.heap[D9]? = some (.deferred (some [])) := by
              have h1 := HZ.out.2.2.2.2.2.2.1
              have h2 := (Array.getElem?_eq_some_iff.1 h1).1
              exact (hTj.2.2.2.2 D9 (by have := HS1.out.2.2.2.size; omega) (by rintro (h | h) <;> omega)).trans ((HS1.out.2.2.2.block D9 h2).trans h1)
            have HM9 := Lib.hid (And.intro m9 (And.intro hMj (And.intro hTj hlst)))
            clear m9 hMj hTj hlst hJ
            go_wp2_with fail
            rw [HQK.out]
            simp only [Exit.then]
            gi_wp2_with fail
            refine marks_leave [D9] wr (by simp) (fun D hD => by rw [List.mem_singleton.1 hD]; exact HM9.out.1) fun w' a1 a2 a3 a4 a5 => ?_
            have hTl : Tch (fun i => i = D9) wr w' := ⟨a1, a2, a3, by rw [a4]; exact Nat.le_refl _, fun i hi hn => a5 i (fun h => hn (by rw [List.mem_singleton.1 h]))⟩
            have hTA : Tch (fun i => i = mb ∨ i = m) w wr := by
              have hb := below_tr HZ.out.1.low HS1.out.2.2.2
              exact (Tch.of_below hb).trans HM9.out.2.2.1 fun _ _ h => h
            refine ⟨.int .i64 0, ?_, rfl, ⟨n + l.length, lst, by have := HLN.out.1; have h1 : (nms cl 2).length ≤ cl.length := nms_le; omega, HM9.out.2.2.2, ?_⟩, ⟨a1.trans hTA.1, a2.trans hTA.2.1, a3.trans hTA.2.2.1, Nat.le_trans hTA.size (Nat.le_of_eq a4.symm), fun i hi hn => (hTl.2.2.2.2 i (by have := hTA.size; omega) (by show i ≠ D9; omega)).trans (hTA.2.2.2.2 i hi hn)⟩⟩
            · simp [results, Try.results17, go_sem]
            · have h1 := HM9.out.2.1.tch hTl (by show m ≠ D9; omega) (by show mb ≠ D9; omega)
              rw [List.take_length] at h1
              have e0 : ∀ k, decide (k ∈ l) = (H k || decide (0 < cntG cl k (nms cl 2).length)) := fun k => by
                rw [← HZ.out.2.2.2.1 k]
                have := HS1.out.2.1.mem k
                cases hk : Maps.has Dz' (.string k) with
                | true => exact decide_eq_true (this.2 hk)
                | false => exact decide_eq_false fun h => by rw [this.1 h] at hk; cases hk
              have e1 : (fun k => H k || decide (k ∈ l)) = fun k => H k || decide (0 < cntG cl k (nms cl 2).length) := by
                funext k
                rw [e0]
                cases H k <;> simp
              have e2 : (fun k => if k ∈ l then (cntG cl k (nms cl 2).length, now, (f k).1 * (now - (f k).2.1) + (f k).2.2) else f k) = fun k => if H k || decide (0 < cntG cl k (nms cl 2).length) then (cntG cl k (nms cl 2).length, now, (f k).1 * (now - (f k).2.1) + (f k).2.2) else f k := by
                funext k
                rw [← e0]
                by_cases hk : k ∈ l <;> simp [hk]
              rw [e1, e2] at h1
              exact h1
      case stop =>
        rintro D c pre A _ h _
        exact h.elim
    · intro x cv kl y1 y2 w1 cn1 hkey hlk hv hat hrg1 hlt hg1 hs1 hen
      try simp only [id] at hkey
      try simp only [id] at hv
      try simp only [id] at hen
      obtain ⟨xs, rfl, rfl, hxl⟩ := Maps.keyOf_str Try.underlying9 hkey
      have hmz := hE.out.2.1.grown hg1 (by have := HD.out.1.2.2.lt; have := HS.out.2.2.2; simp; omega)
      have hbz := hE.out.2.2.2.2.2.2.1.grown hg1 (by have := HS.out.2.2.2; simp; omega)
      have e8 := hbz.cell 0
      have hnz : nz < maxLen := by
        have := hE.out.2.2.1
        have := HB.out.2.2.1
        unfold maxLen
        omega
      go_wp2_with (at_mapUpdate; refine wpl_store_map rfl _ _ _ 104 rfl 9 2 strK Try.underlying104 w.heap.size nz Dz rfl hmz hnz _ (.int .i64 0) _ rfl rfl hkey ?_)
      intro w2 hM2 hg2 hs2
      have hmlt := HD.out.1.2.2.lt
      have hsz := HS.out.2.2.2
      have hrg2 := hrg1.kept (row := some w.heap.size) hg2 (by simp; omega) (by simp; omega)
      have hsk : ∀ k, (Lit.string k).sameKey (.string xs) = decide (k = xs) := fun k => by
        unfold Lit.sameKey
        by_cases e : k = xs <;> simp [e]
      have hHx : H xs = true := by
        have := hE.out.2.2.2.2.2.1 _ hlk
        rw [HD.out.2.1] at this
        exact this
      have hDz := hmz.isMap
      have hE2 : Hid (w2.ranges Try.prog 9 asIs mb W0.heap.size n D (fun z => left z && !z.sameKey (.string xs)) cn1 ∧ Mp Try.prog w2 9 w.heap.size (nz + 1) (Dz.put (.string xs) (.held (.int .i64 0))) ∧ (nz + 1) + cn1 ≤ n ∧ (∀ k, Maps.has (Dz.put (.string xs) (.held (.int .i64 0))) (.string k) = (H k && !((fun z => left z && !z.sameKey (.string xs)) (.string k)))) ∧ (∀ k, valAt (Dz.put (.string xs) (.held (.int .i64 0))) (.string k) (.int .i64 0) = .int .i64 0) ∧ (∀ kl, (fun z => left z && !z.sameKey (.string xs)) kl = true → Maps.has D kl = true) ∧ Bk w2 (w.heap.size + 1) 104 #[.map (some w.heap.size)] ∧ Below w.heap.size w w2 ∧ W0.heap.size < w2.heap.size) := by
        refine ⟨hrg2, hM2, by have := hE.out.2.2.1; omega, fun k => ?_, fun k => ?_, fun kl h => hE.out.2.2.2.2.2.1 kl (by simp at h; exact h.1), hbz.grown hg2 (by simp), ?_, ?_⟩
        · show _ = (H k && !(left (.string k) && !(Lit.string k).sameKey (.string xs)))
          rw [hsk]
          by_cases e : k = xs
          · subst e
            rw [Maps.has_put_same hDz (keyLit_string _), hHx]
            simp
          · rw [Maps.has_put_other (by intro h; injection h with h; exact e h), hE.out.2.2.2.1]
            simp [e]
        · by_cases e : k = xs
          · subst e
            rw [valAt_put_same hDz (keyLit_string _)]
          · rw [valAt_put_other (by intro h; injection h with h; exact e h)]
            exact hE.out.2.2.2.2.1 k
        · have h0 := hE.out.2.2.2.2.2.2.2.1
          exact (h0.grown hg1 h0.size fun k e => by cases e; omega).grown hg2 (by have := h0.size; have := hg1.size; omega) fun k e => by cases e; omega
        · have := hE.out.2.2.2.2.2.2.2.2
          omega
      have hlt2 : w2.rangeLeft mb W0.heap.size < wr.rangeLeft mb W0.heap.size := by
        rw [hrg2.left_eq, hE.out.1.left_eq]
        exact hlt
      clear hrg1 hrg2 hM2 hg1 hg2 hs1 hs2 hmz hbz e8 hkey hlk hv hat hE hDz hHx hsk
      go_wp2_with fail
      exact ⟨⟨_, cn1, nz + 1, _, hE2⟩, hlt2⟩
end Go.Proofs.Ytoobjfpkdlffpaa
end
section
namespace Go.Proofs.Ytoobjfpkdlffpaa
open Go.RowKit Go.Proofs.Mem
open Go.Maps (Keyed string_keyed)
open Go.WideMaps (keyOf_string_mk)
set_option linter.unusedVariables false
set_option linter.unusedSimpArgs false
def rdV (f : List UInt8 → Nat × Nat × Nat) (now : Nat) (k : List UInt8) : List Value := [.string ⟨k.toArray⟩, .int .i64 (f k).1, .int .u64 ((f k).1 * (now - (f k).2.1) + (f k).2.2 : Nat)]
theorem info_rd : (Try.prog.info? 74).map (fun i => (i.zero, i.size, i.bytes)) = some (some (.agg #[.string ⟨#[]⟩, .int .i64 0, .int .u64 0]), 3, 32) := by kernel_rfl
theorem dial_size (w : World) (s i c : Int) : (Instr.field 111 (.agg #[.int .i64 s, .int .i64 i, .int .u64 c]) 0).run Try.prog w = .ok (.int .i64 s) w := by kernel_rfl
def AllF (w : World) (m b n now : Nat) (H : List UInt8 → Bool) (f : List UInt8 → Nat × Nat × Nat) (e : Ending) (w' : World) : Prop :=
  ∃ (A : Option Addr) (c : Nat) (l : List (List UInt8)), e = .returned (.tuple #[.slice A l.length c, .int .i64 0]) ∧ (∀ k, k ∈ l ↔ H k = true) ∧ l.Nodup ∧ (l.Pairwise fun x y => x ≤ y) ∧ l.length ≤ n ∧ Sl w' 3 (.slice A l.length c) l.length (l.flatMap (rdV f now)) ∧ Tch (fun j => j = m) w w' ∧ MtF w' m b n now H f
set_option maxHeartbeats 4000000 in
set_option maxRecDepth 100000 in
theorem all_any {w : World} {m b n last : Nat} {H : List UInt8 → Bool} {f : List UInt8 → Nat × Nat × Nat} (h : MtF w m b n last H f) (now : Nat) (q2 : last ≤ now) (q3 : now ≤ 1000000) (hn : n ≤ 400) :
    Calls Try.prog 19 #[.pointer (some ⟨m, 0, none⟩), .int .i64 now] w (AllF w m b n now H f) := by
  have HT := Lib.hid h
  obtain ⟨D, hMt, hH, hf, hnm, hbd⟩ := h
  have CT := Lib.hid (tick_ok w m b n last now D hMt q2 (by omega))
  have hsz := hMt.2.2.size_le
  have CK := Lib.hid (fun w1 => callsIn_wide.1 (Try.maps_Keys_38 (some b) w1))
  have CS := Lib.hid (callsIn_wide.1 (Try.slices_Sorted_keys_36_38 b n D asIs w hMt.2.2 (by unfold maxLen; omega) (by omega)))
  have e0 := hMt.2.1.cell 0
  have HD := Lib.hid (And.intro hMt (And.intro hH (And.intro hf (And.intro hnm (And.intro hbd hsz)))))
  have HB := Lib.hid (And.intro q2 (And.intro q3 hn))
  clear hMt hH hf hnm hbd hsz q2 q3 hn
  go_enter Try.func19, Try.ntmps19
  go_wp2_with fail
  refine CT.out.mono ?_
  rintro e w' ⟨rfl, rfl⟩
  go_wp2_with fail
  refine (CK.out _).mono ?_
  rintro e w' ⟨rfl, rfl⟩
  go_wp2_with fail
  refine CS.out.mono ?_
  rintro e w1 ⟨v, ss, rfl, hperm, hrow, hnil, hb⟩
  have hB1 : Below w.heap.size w w1 := below_tr (below_al w _) hb
  have hkl := keysL_of HD.out.1.2.2 hperm
  have hSl := Sl.of_own hrow
  obtain ⟨l, hl⟩ : ∃ l, l = ss.mergeSort (fun x y => decide (x ≤ y)) := ⟨_, rfl⟩
  rw [← hl] at hkl hSl hrow
  have hll : ss.length = l.length := by rw [hl, List.length_mergeSort]
  rw [hll] at hSl hrow
  have hbase : ∀ ad n' c', v = .slice (some ad) n' c' → ∃ g, ad = ⟨g, 0, none⟩ ∧ w.heap.size ≤ g := fun ad n' c' hv => by
    have := hrow.2
    rcases this with ⟨h1, _⟩ | ⟨g', cap, cur, h1, h2, _⟩
    · rw [h1] at hv; cases hv
    · rw [h1] at hv
      injection hv with hv
      injection hv with hv
      rw [World.size_alloc] at h2
      exact ⟨g', hv.symm, by omega⟩
  obtain ⟨Ar, cr, ev, hcr⟩ := id hSl
  subst ev
  have HS1 := Lib.hid (And.intro hSl (And.intro hkl (And.intro hbase hB1)))
  clear hSl hkl hbase hB1 hrow hll hl hperm hnil hb hcr CK CS CT
  have hlen : l.length ≤ n := by
    have h1 := HS1.out.2.1.len
    have h2 := HD.out.2.2.2.2.2
    omega
  have HLN := Lib.hid hlen
  have h0 : Hid (∃ Av cv, Value.slice none 0 0 = .slice Av 0 cv ∧ w1.ownsRow w1.heap.size 74 3 (.slice Av 0 cv) 0 ((l.take 0).flatMap (rdV f now)) ∧ Below w1.heap.size w1 w1) := ⟨none, 0, rfl, World.ownsRow_nil _ _ _ _, Below.refl _ _⟩
  clear hlen e0
  go_wp2_with fail
  go_loopw [7, 25] (fun v7 vj W => ∃ j : Nat, j ≤ l.length ∧ vj = .int .i64 j ∧ Hid (∃ Av cv, v7 = .slice Av j cv ∧ W.ownsRow w1.heap.size 74 3 (.slice Av j cv) j ((l.take j).flatMap (rdV f now)) ∧ Below w1.heap.size w1 W)) (fun _ vj _ => l.length - (intOf vj).toNat)
  case atStart => exact ⟨0, Nat.zero_le _, rfl, h0⟩
  case round =>
    clear h0
    obtain ⟨j, hj, rfl, hJ⟩ := hrel
    have hj9 := HLN.out
    have hn9 := HB.out.2.2
    obtain ⟨Av, cv, rfl, hown, hBj⟩ := hJ.out
    clear hJ
    by_cases hlt : j < l.length
    · obtain ⟨s, hs⟩ : ∃ s, l[j]? = some s := ⟨_, List.getElem?_eq_getElem hlt⟩
      obtain ⟨ad, e1, hadl, hc⟩ := (HS1.out.1.below hBj).cell1 (k := j) (u := .string ⟨s.toArray⟩) (by rw [List.getElem?_map, hs]; rfl)
      subst e1
      obtain ⟨g, rfl, hg⟩ := HS1.out.2.2.1 ad _ _ rfl
      rw [add_lit, Nat.zero_add] at hc
      have hB2 := below_tr HS1.out.2.2.2 hBj
      have hm2 := HD.out.1.2.2.below hB2
      have e02 := (HD.out.1.2.1.below' hB2).cell 0
      have hhas := (HS1.out.2.1.mem s).1 (List.mem_of_getElem? hs)
      have hnm9 : nmB ⟨s.toArray⟩ = true := HD.out.2.2.2.1 s (by rw [← HD.out.2.1 s]; exact hhas)
      have hkey := keyOf_string_mk Try.underlying9 (s := ⟨s.toArray⟩) (by have := (nm_sz hnm9).1; unfold maxLen; omega)
      have hval := HD.out.2.2.1 s
      have hbs := HD.out.2.2.2.2.1 s
      obtain ⟨S0, hS0⟩ : ∃ S0, S0 = (f s).1 := ⟨_, rfl⟩
      obtain ⟨I0, hI0⟩ : ∃ I0, I0 = (f s).2.1 := ⟨_, rfl⟩
      obtain ⟨C0, hC0⟩ : ∃ C0, C0 = (f s).2.2 := ⟨_, rfl⟩
      have hrd : rdV f now s = [.string ⟨s.toArray⟩, .int .i64 S0, .int .u64 (S0 * (now - I0) + C0 : Nat)] := by rw [hS0, hI0, hC0]; rfl
      unfold zd dV at hval
      rw [← hS0, ← hI0, ← hC0] at hval hbs
      have CA := Lib.hid (fun w1 => at_any S0 I0 now C0 w1 (by omega) (by have := HB.out.1; omega) (by have := HB.out.2.1; omega) (by omega))
      have hTb : S0 * (now - I0) ≤ 1000 * 1000000 := Nat.mul_le_mul hbs.1 (by have := HB.out.2.1; omega)
      obtain ⟨T, hT⟩ : ∃ T, T = S0 * (now - I0) + C0 := ⟨_, rfl⟩
      rw [← hT] at CA hrd
      have hTm : T ≤ 9223372036854775807 := by omega
      have eT : atV (T : Int) = .tuple #[.int .u64 T, .int .i64 0] := by unfold atV; rw [if_pos (by omega)]
      rw [eT] at CA
      have HJ9 := Lib.hid (And.intro hs (And.intro hrd (And.intro hown hBj)))
      clear hs hrd hown hBj hhas hnm9 hbs hS0 hI0 hC0 hTb hT hTm eT hadl hB2
      go_wp2_with (at_lookup; refine wpl_look rfl _ _ 100 rfl 9 111 strK Try.underlying100 zeroDial b n D rfl hm2 _ _ rfl hkey ?_; rw [hval])
      refine (CA.out _).mono ?_
      rintro e w5 ⟨rfl, hb5⟩
      have hm5 := hm2.below hb5
      have hown5 := own_below HJ9.out.2.2.1 hb5
      have e05 := keep_cell hb5 e02
      have hfd := dial_size w5 S0 I0 C0
      have hB5 : Below w1.heap.size w1 (w5.alloc (.cells #[.string ⟨s.toArray⟩, .int .i64 S0, .int .u64 T] 74)) := below_tr HJ9.out.2.2.2 (below_tr hb5 (below_al _ _))
      have hs5 := hB5.size
      go_wp2_with (first
        | (at_lookup; refine wpl_look rfl _ _ 100 rfl 9 111 strK Try.underlying100 zeroDial b n D rfl hm5 _ _ rfl hkey ?_; rw [hval])
        | (at_builtin; refine wpl_append rfl _ _ _ rfl w1.heap.size 74 _ 3 32 Try.underlying70 info_rd rfl (by omega) (by omega) _ j _ rfl (hown5.alloc _) _ 1 [.string ⟨s.toArray⟩, .int .i64 S0, .int .u64 T] rfl (Sl.made w5 #[.string ⟨s.toArray⟩, .int .i64 S0, .int .u64 T] 74 1 1 (Nat.le_refl _) rfl) (by intro u hu; simp at hu; rcases hu with rfl | rfl | rfl <;> rfl) (by omega) hs5 ?_; intro v' w6 hown6 hgrow6 _; obtain ⟨vA, vc, rfl, hvc⟩ := id (Sl.of_own hown6)))
      have hB6 := below_grown hB5 (hown5.alloc _) hgrow6 hs5 (Nat.le_refl _)
      refine ⟨⟨j + 1, by omega, by go_num, Lib.hid ⟨vA, vc, rfl, ?_, hB6⟩⟩, by simp [intOf]; omega⟩
      have e9 : (l.take (j + 1)).flatMap (rdV f now) = (l.take j).flatMap (rdV f now) ++ [.string ⟨s.toArray⟩, .int .i64 S0, .int .u64 T] := by
        rw [List.take_add_one, HJ9.out.1, List.flatMap_append]
        show _ ++ ((rdV f now s) ++ []) = _
        rw [HJ9.out.2.1, List.append_nil]
      rw [e9]
      exact hown6
    · have hjl : j = l.length := by omega
      subst hjl
      have hB2 := below_tr HS1.out.2.2.2 hBj
      have kM := HD.out.1.2.1.below' hB2
      have e02 := kM.cell 0
      have e12 := kM.cell 1
      have f12 := kM.frozen 1
      have hS9 := Sl.of_own hown
      rw [List.take_length] at hS9
      have hge : w1.heap.size ≤ w1.heap.size := Nat.le_refl _
      have HE := Lib.hid (And.intro hown (And.intro hBj (And.intro hB2 (And.intro kM hS9))))
      clear hown hBj hB2 kM hS9
      go_wp2_with fail
      go_ret2
      have hml := HD.out.1.2.1.lt
      have hbm := HD.out.1.1
      have h1s := HS1.out.2.2.2.size
      refine ⟨Av, cv, l, rfl, fun k => ?_, HS1.out.2.1.nd, HS1.out.2.1.asc, HLN.out, ?_, ?_, ?_⟩
      · rw [HS1.out.2.1.mem k, HD.out.2.1 k]
      · have h3 := Sl.of_own (own_set HE.out.1 ⟨m, 1, none⟩ (by simp; omega) (.int .i64 now))
        rw [List.take_length] at h3
        exact h3
      · exact (Tch.of_below HE.out.2.2.1).trans (show Tch (fun j => j = m) wr (wr.setCell ⟨m, 1, none⟩ (.int .i64 now)) from ⟨rfl, rfl, rfl, by simp [World.setCell], fun i _ hi => Below.heap_setCell wr ⟨m, 1, none⟩ _ i hi⟩) fun _ _ h => h
      · refine ⟨D, ⟨hbm, HE.out.2.2.2.1.set 1 (.int .i64 now), (HD.out.1.2.2.below HE.out.2.2.1).setCell (by simp; omega) _⟩, HD.out.2.1, HD.out.2.2.1, HD.out.2.2.2.1, fun k => ?_⟩
        have h1 := HD.out.2.2.2.2.1 k
        exact ⟨h1.1, by have := HB.out.1; omega, h1.2.2⟩
end Go.Proofs.Ytoobjfpkdlffpaa
end
section
namespace Go.Proofs.Ytoobjfpkdlffpaa
open Go.RowKit Go.Proofs.Mem
set_option linter.unusedVariables false
set_option linter.unusedSimpArgs false
attribute [local go_sem] Oper.semAt_some
set_option maxRecDepth 100000 in
def nC (s0 q2 : Nat) (f : Nat → Value) : Array Value := #[f 0, f 1, f 2, .pointer (some ⟨s0, 0, none⟩), f 4, .pointer (some ⟨s0 + 1, 0, none⟩), .pointer (some ⟨q2, 0, none⟩), f 7, f 8, f 9, f 10, f 11, f 12, f 13, f 14, f 15, f 16, f 17, f 18, f 19, f 20, f 21, f 22, f 23, f 24, f 25, f 26, f 27]
theorem tl_ne {a b : ByteArray} (h : a ≠ b) : (a.toList == b.toList) = false := by
  rw [ByteArray.toList_eq, ByteArray.toList_eq, beq_eq_false_iff_ne]
  exact fun e => h (bytes_inj e)
theorem none_tl : strNone.toList = [110, 111, 110, 101] := by rw [ByteArray.toList_eq]; rfl
structure IsCR (w : World) (g : ByteArray) (cl : List Ob) (z : Nat) (pre : List Ob) (W : World) : Prop where
  bg : Bk W w.heap.size 9 #[.string g]
  bn : Bk W (w.heap.size + 1) 27 #[.int .u64 (cntG cl g.data.toList pre.length)]
  low : Below w.heap.size w W
  zs : z ≤ W.heap.size
theorem IsCR.own {w : World} {g : ByteArray} {cl : List Ob} {z n₀ : Nat} (hn : w.heap.size + 2 ≤ n₀) : OwnFrom n₀ (IsCR w g cl z) := fun pre W W' row h hg hr =>
  have hr2 : ∀ r, row = some r → ∃ o : Obj, W.heap[r]? = some o ∧ o.isCells = false := fun r e => (hr r e).2
  { bg := bk_kept h.bg hg hr2
    bn := bk_kept h.bn hg hr2
    low := h.low.grown hg h.low.size fun r e => by have := (hr r e).1; omega
    zs := Nat.le_trans h.zs hg.size }
theorem IsCR.below {w W W' : World} {g : ByteArray} {cl : List Ob} {z : Nat} {pre : List Ob} (h : IsCR w g cl z pre W) (hb : Below W.heap.size W W') : IsCR w g cl z pre W' :=
  ⟨h.bg.below' hb, h.bn.below' hb, below_tr h.low hb, Nat.le_trans h.zs hb.size⟩
def IsCAx (cl : List Ob) (s0 z : Nat) (pre : List Ob) (x : Ob) (a : Act) (W : World) : Prop :=
  ∃ q2 f, a = ⟨nC s0 q2 f, []⟩ ∧ z ≤ q2 ∧ Bk W q2 57 x.cells.toArray ∧ KnL cl 2 pre x W
theorem isCAx_intro {cl : List Ob} {s0 z : Nat} {pre : List Ob} {x : Ob} {W : World} (t : Array Value) (q2 : Nat) (h : t = nC s0 q2 (fun i => t.getD i undef)) (hq : z ≤ q2) (hb : Bk W q2 57 x.cells.toArray) (hk : KnL cl 2 pre x W) : IsCAx cl s0 z pre x ⟨t, []⟩ W :=
  ⟨q2, _, by rw [← h], hq, hb, hk⟩
theorem cntG_next {cl : List Ob} {g : List UInt8} {j : Nat} {z : Ob} (hu : (keys cl).Nodup) (hz : z ∈ cl) (hk : z.kind = 2) (hn : (nms cl 2)[j]? = some z.name.data.toList) : cntG cl g (j + 1) = cntG cl g j + (if (gname z).data.toList = g then 1 else 0) := by
  unfold cntG
  rw [cntP_next hu hz hk hn]
  unfold inGrp
  by_cases e : (gname z).data.toList = g <;> simp [e]
set_option maxHeartbeats 8000000 in
set_option maxRecDepth 100000 in
theorem nodesG_any {B : Nat} {w : World} {p b : Nat} {most : Int} {evs : List Ev} {cl : List Ob} (M : S8 B w p b most evs cl) (hcl : cl.length ≤ 100) (g : ByteArray) (hg : g ≠ ⟨#[]⟩) :
    Calls Try.prog 18 #[.pointer (some ⟨p, 0, none⟩), .string g] w fun e w' => e = .returned (.int .u64 (cntG cl g.data.toList (nms cl 2).length)) ∧ Below w.heap.size w w' := by
  have HM := Lib.hid (And.intro M (And.intro hcl hg))
  clear M hcl hg
  refine (callsIn_wide (n := 7)).1 ?_
  refine callsIn_of_wp_marks Try.func18 rfl trivial ?_ rfl
  simp only [Try.ntmps18, List.size_toArray, List.length_cons, List.length_nil, Nat.reduceAdd, Nat.reduceSub, Array.replicate_succ, Array.replicate_zero, List.push_toArray, List.append_toArray, List.nil_append, List.cons_append]
  refine wpIn_seq ?_
  refine wpIn_wide.2 ?_
  refine wp_hide fun QA HQA => ?_
  go_wp2_with fail
  rw [HQA.out]
  simp only [Exit.then]
  clear HQA
  refine wpIn_seq ?_
  refine wpIn_wide.2 ?_
  refine wp_hide fun QB HQB => ?_
  go_wp2_with fail
  rw [HQB.out]
  simp only [Exit.then]
  clear HQB
  obtain ⟨W0, hW0⟩ : ∃ W0, W0 = (w.alloc (.cells #[.string g] 9)).alloc (.cells #[.int .u64 0] 27) := ⟨_, rfl⟩
  have s1 : Bk W0 w.heap.size 9 #[.string g] := by rw [hW0]; exact (Bk.new w 9 #[.string g]).alloc _
  have s2 : Bk W0 (w.heap.size + 1) 27 #[.int .u64 0] := by
    have h := Bk.new (w.alloc (.cells #[.string g] 9)) 27 #[.int .u64 0]
    rw [World.size_alloc] at h
    rw [hW0]
    exact h
  have s3 : Below w.heap.size w W0 := by
    rw [hW0]
    exact below_tr (below_al _ _) (below_al _ _)
  have s4 : W0.heap.size = w.heap.size + 2 := by rw [hW0]; simp
  rw [← hW0]
  have HZ0 := Lib.hid (And.intro s1 (And.intro s2 (And.intro s3 s4)))
  clear hW0 s1 s2 s3 s4
  refine wpIn_seq ?_
  refine wpIn_hide fun QF HQF => ?_
  refine wpIn_seq ?_
  refine wpIn_wide.2 ?_
  refine wp_hide fun QJ HQJ => ?_
  go_wp2_with fail
  refine (list_any p 2 W0).mono ?_
  rintro e V2 ⟨rfl, rfl⟩
  go_wp2_with fail
  rw [HQJ.out]
  simp only [Exit.then]
  clear HQJ
  refine wpIn_block ?_
  obtain ⟨WL, hWL⟩ : ∃ WL, WL = (W0.alloc (.cells #[.pointer (some ⟨p, 0, none⟩)] 23)).alloc (.cells #[.int .i64 2] 3) := ⟨_, rfl⟩
  have l1 := (Bk.new W0 23 #[.pointer (some ⟨p, 0, none⟩)]).alloc (.cells #[.int .i64 2] 3)
  have l2 := Bk.new (W0.alloc (.cells #[.pointer (some ⟨p, 0, none⟩)] 23)) 3 #[.int .i64 2]
  rw [World.size_alloc] at l2
  have lB : Below W0.heap.size W0 WL := by
    rw [hWL]
    exact below_tr (below_al _ _) (below_al _ _)
  have lz : WL.heap.size = W0.heap.size + 2 := by rw [hWL]; simp
  rw [← hWL] at l1 l2 ⊢
  clear hWL
  have HL1 := Lib.hid (And.intro l1 (And.intro l2 (And.intro lB lz)))
  clear l1 l2 lB lz
  have HBW : Below w.heap.size w WL := below_tr HZ0.out.2.2.1 HL1.out.2.2.1
  obtain ⟨n2, D2, ev2, st2, R2, hlow2, _, hcl2, hgood2⟩ := id HM.out.1
  have stL := st2.below HBW
  have hlz := HL1.out.2.2.2
  have hwz := HZ0.out.2.2.2
  have hp2 := st2.2.1.lt
  have hb2 := st2.2.2.1.lt
  have hcl9 := HM.out.2.1
  refine wpIn_rangeFunc_know (n := 7) rfl (by omega) (gf := 30) (lb := #[.pointer (some ⟨W0.heap.size, 0, none⟩), .pointer (some ⟨W0.heap.size + 1, 0, none⟩)]) rfl trivial (enters_of Try.func30 rfl rfl)
    (list_knows (p := p) (b := b) (n := n2) (D := D2) (F := fun j => j = w.heap.size + 1) (cl := cl) 6 (by omega) 2 ?hcl WL ?hp ?hmp ?hR ?hbs ?hbk ?hF) KeepL.trans ?hKb (Below.refl _ _) (fun _ => rfl)
    (IsCR w g cl WL.heap.size) (fun _ _ _ => False) ?hI (fun _ _ _ _ _ hs _ _ => hs) ?h0 (IsCAx cl w.heap.size WL.heap.size) ?hAx ?assign ?body ?done ?stop
  case hcl => omega
  case hp => exact stL.cells.2.1
  case hmp => exact stL.2.2.1
  case hR => exact {
    size := R2.size
    at1 := fun x hx => by
      obtain ⟨h1, y, h2, h3, h4⟩ := R2.at1 x hx
      exact ⟨h1, y, h2, safe_less (safe_old h3.ok HBW) (fun j hj => by have h5 : j = w.heap.size + 1 := hj; omega), h4⟩
    at0 := R2.at0
    ok := R2.ok
    uniq := R2.uniq }
  case hbs => exact HL1.out.1.cell 0
  case hbk => exact HL1.out.2.1.cell 0
  case hF => exact ⟨by omega, by omega, by omega, by omega⟩
  case hKb => exact fun W l o o' hl ho hc hw => KeepL.put W l o o' hl ho hc hw
  case hI => exact IsCR.own (by omega)
  case h0 => exact ⟨HZ0.out.1.below' HL1.out.2.2.1, by
    have h := HZ0.out.2.1.below' HL1.out.2.2.1
    have e : cntG cl g.data.toList ([] : List Ob).length = 0 := cntP_zero
    rw [e]
    exact h, HBW, Nat.le_refl _⟩
  case hAx =>
    rintro pre x a' s A A' row ⟨q', f', e, hq', hb', z, hz, k1, k2, k3, ho⟩ hg hr
    have hr2 : ∀ r, row = some r → ∃ o : Obj, A.heap[r]? = some o ∧ o.isCells = false := fun r e => (hr r e).2
    exact ⟨q', f', e, hq', bk_kept hb' hg hr2, z, hz, k1, k2, k3, ok_kept ho hg hr2⟩
  case assign =>
    intro l pre x A K hA hKn hK
    have h47 : Is47 x.cells.toArray := cells_is x (by obtain ⟨z, hz, h1, h2, h3, h4⟩ := hKn; exact h4)
    have kz := Bk.new A 57 Z47
    refine wpIn_region_lit ?_
    refine wplI_run (fun _ => trivial) (fun ev => Oper.semAt_some _ _ _ (by intro c h; cases h)) rfl (run_alloc47 rfl _) ?_
    refine wplI_storeg (cs := x.cells.toArray) (fun _ => trivial) (fun ev => Oper.semAt_some _ _ _ (by intro c h; cases h)) kz (by rw [h47.1]; rfl) rfl rfl 57 (.tmp 6) (.tmp 9) rfl (by kernel_rfl) (by kernel_rfl) (info47 h47) h47.2 ?_
    have k2 := setCells_whole kz (show Z47.size = x.cells.toArray.size by rw [h47.1]; rfl)
    have b2 : Below A.heap.size A ((A.alloc (.cells Z47 57)).setCells A.heap.size 0 x.cells.toArray.toList) := below_setCells (g := A.heap.size) x.cells.toArray.toList 0 (below_al A _) (Nat.le_refl _)
    have hzs := hA.zs
    exact hK _ _ ⟨b2.size, fun j o _ hj _ => (b2.block j (Array.getElem?_eq_some_iff.1 hj).1).trans hj⟩ (KeepL.of_below b2 (by omega)) (hA.below b2) (isCAx_intro _ A.heap.size (by kernel_rfl) hzs k2 (hKn.below b2))
  case body =>
    rintro l pre x _ A hl hlo hA ⟨q2, f', rfl, hq2, hbq, hKn⟩
    unfold nC
    obtain ⟨z, hz, hzk, hzn, hnf, hok⟩ := id hKn
    have hgz : gname z = gname x := (gname_nf hnf).symm
    have hnext := cntG_next (g := g.data.toList) R2.uniq hz hzk hzn
    rw [hgz] at hnext
    have e3 := hA.bg.cell 0
    have e5 := hA.bn.cell 0
    have f5 := hA.bn.frozen 0
    have eg : A.cell? ⟨q2, 20, none⟩ = some (.string x.n.group) := hbq.cell 20
    have hcle : cntG cl g.data.toList pre.length ≤ cl.length := cntP_le
    obtain ⟨C, hC⟩ : ∃ C, C = cntG cl g.data.toList pre.length := ⟨_, rfl⟩
    rw [← hC] at e5 hnext hcle
    obtain ⟨gr, hgr⟩ : ∃ gr, gr = x.n.group := ⟨_, rfl⟩
    rw [← hgr] at eg
    have hgn : gname x = if gr = ⟨#[]⟩ then strNone else gr := by rw [hgr]; rfl
    have hpl : (pre ++ [x]).length = pre.length + 1 := by simp
    have fin1 : (gname x).data.toList = g.data.toList → IsCR w g cl WL.heap.size (pre ++ [x]) (A.setCell ⟨w.heap.size + 1, 0, none⟩ (.int .u64 ((C + 1 : Nat) : Int))) ∧ KeepsFrom WL.heap.size A (A.setCell ⟨w.heap.size + 1, 0, none⟩ (.int .u64 ((C + 1 : Nat) : Int))) ∧ KeepL WL.heap.size (fun j => j = w.heap.size + 1) A (A.setCell ⟨w.heap.size + 1, 0, none⟩ (.int .u64 ((C + 1 : Nat) : Int))) := fun he => by
      have hgb : ∀ i, i ≠ w.heap.size + 1 → (A.setCell ⟨w.heap.size + 1, 0, none⟩ (.int .u64 ((C + 1 : Nat) : Int))).heap[i]? = A.heap[i]? := fun i hn => Below.heap_setCell A ⟨w.heap.size + 1, 0, none⟩ _ i hn
      have hsz : (A.setCell ⟨w.heap.size + 1, 0, none⟩ (.int .u64 ((C + 1 : Nat) : Int))).heap.size = A.heap.size := by simp [World.setCell]
      refine ⟨⟨hA.bg.far (by simp) _, ?_, hA.low.setCell (by simp) _, by rw [hsz]; exact hA.zs⟩, ⟨by rw [hsz]; exact Nat.le_refl _, fun i o hi ho _ => (hgb i (by omega)).trans ho⟩, ⟨rfl, rfl, rfl, by rw [hsz]; exact Nat.le_refl _, fun i hi hf => hgb i hf, fun i o hi ho _ => (hgb i (by omega)).trans ho⟩⟩
      rw [hpl, hnext, if_pos he]
      exact hA.bn.set 0 _
    have fin0 : (gname x).data.toList ≠ g.data.toList → IsCR w g cl WL.heap.size (pre ++ [x]) A := fun he => by
      refine ⟨hA.bg, ?_, hA.low, hA.zs⟩
      rw [hpl, hnext, if_neg he, hC]
      exact hA.bn
    have hw9 : IntKind.u64.wrap ((C : Int) + 1) = ((C + 1 : Nat) : Int) := by
      rw [IntWalk.u64_in _ (by omega)]
      omega
    have hzs := hA.zs
    have HX := Lib.hid (And.intro hA (And.intro hl (And.intro hlo (And.intro fin1 (And.intro fin0 (And.intro hgn (And.intro hzs hw9)))))))
    clear hz hzk hzn hnf hok hgz hnext hcle hC hgr hgn hpl fin1 fin0 hA hbq hl hlo hKn hzs hw9
    have keep0 : ∀ P : Prop, P → KeepsFrom WL.heap.size A A ∧ KeepL WL.heap.size (fun j => j = w.heap.size + 1) A A := fun _ _ => ⟨KeepsFrom.refl _ _, KeepL.of_below (Below.refl _ _) HX.out.2.2.2.2.2.2.1⟩
    have HK := Lib.hid keep0
    clear keep0
    by_cases h1 : gr = g
    · subst h1
      have he : (gname x).data.toList = gr.data.toList := by
        rw [HX.out.2.2.2.2.2.1, if_neg HM.out.2.2]
      have hf := HX.out.2.2.2.1 he
      clear he
      have HF := Lib.hid hf
      clear hf
      gi_wp2_with fail
      rw [HX.out.2.2.2.2.2.2.2]
      exact ⟨HF.out.2.1, HF.out.2.2, HF.out.1⟩
    · have hn1 := tl_ne h1
      by_cases h2 : g = strNone
      · by_cases h3 : gr = ⟨#[]⟩
        · have he : (gname x).data.toList = g.data.toList := by
            rw [HX.out.2.2.2.2.2.1, if_pos h3, h2]
          have HF := Lib.hid (HX.out.2.2.2.1 he)
          clear he
          have hn2 : (g.toList == [110, 111, 110, 101]) = true := by rw [h2, none_tl]; rfl
          rw [h3] at eg
          have hn4 := str_ne HM.out.2.2
          have hn5 : g.toList.isEmpty = false := by
            rw [h2, none_tl]
            rfl
          clear h1 h2 h3 hn1
          gi_wp2_with fail
          rw [HX.out.2.2.2.2.2.2.2]
          exact ⟨HF.out.2.1, HF.out.2.2, HF.out.1⟩
        · have he : (gname x).data.toList ≠ g.data.toList := by
            rw [HX.out.2.2.2.2.2.1, if_neg h3]
            exact fun e => h1 (bytes_inj e)
          have HF := Lib.hid (HX.out.2.2.2.2.1 he)
          clear he
          have hn2 : (g.toList == [110, 111, 110, 101]) = true := by rw [h2, none_tl]; rfl
          have hn3 := str_ne h3
          clear h1 h2 h3
          gi_wp2_with fail
          exact ⟨(HK.out True trivial).1, (HK.out True trivial).2, HF.out⟩
      · have he : (gname x).data.toList ≠ g.data.toList := by
          rw [HX.out.2.2.2.2.2.1]
          by_cases h3 : gr = ⟨#[]⟩
          · rw [if_pos h3]
            exact fun e => h2 (bytes_inj e).symm
          · rw [if_neg h3]
            exact fun e => h1 (bytes_inj e)
        have HF := Lib.hid (HX.out.2.2.2.2.1 he)
        clear he
        have hn2 := tl_ne h2
        rw [none_tl] at hn2
        clear h1 h2
        gi_wp2_with fail
        exact ⟨(HK.out True trivial).1, (HK.out True trivial).2, HF.out⟩
  case done =>
    intro D9 xs A hD hxs hA hmD
    show QF .normal _ A
    rw [HQF.out]
    simp only [Exit.then]
    have hlx : xs.length = (nms cl 2).length := hxs
    have hbn := hA.bn
    rw [hlx] at hbn
    have e5 := hbn.cell 0
    have HA9 := Lib.hid (And.intro hA.low (And.intro hmD hD))
    clear hA hmD hD hlx hxs hbn
    gi_wp2_with fail
    refine marks_leave [D9] A (by simp) (fun D hD => by rw [List.mem_singleton.1 hD]; exact HA9.out.2.1) fun w' a1 a2 a3 a4 a5 => ?_
    have hDge := HA9.out.2.2
    refine ⟨.int .u64 (cntG cl g.data.toList (nms cl 2).length), ?_, rfl, ⟨a1.trans HA9.out.1.os, a2.trans HA9.out.1.tape, a3.trans HA9.out.1.output, by rw [a4]; exact HA9.out.1.size, fun i hi => (a5 i (by simp; omega)).trans (HA9.out.1.block i hi)⟩⟩
    simp [results, Try.results18, go_sem]
  case stop =>
    rintro D c pre A _ h _
    exact h.elim
end Go.Proofs.Ytoobjfpkdlffpaa
end
section
namespace Go.Proofs.Ytoobjfpkdlffpaa
open Go.RowKit Go.Proofs.Mem
set_option linter.unusedVariables false
set_option linter.unusedSimpArgs false
def cntA (cl : List Ob) (k : List UInt8) : Nat := cntG cl k (nms cl 2).length
theorem cntA_le (cl : List Ob) (k : List UInt8) : cntA cl k ≤ cl.length := cntP_le
def OneL (cl : List Ob) (a : Nat) (H : List UInt8 → Bool) (f : List UInt8 → Nat × Nat × Nat) : Prop :=
  ∀ k, H k = decide (0 < cntA cl k) ∧ f k = if 0 < cntA cl k then (cntA cl k, a, 0) else (0, 0, 0)
theorem one_look (cl : List Ob) (a : Nat) : OneL cl a (fun k => (fun _ => false) k || decide (0 < cntG cl k (nms cl 2).length)) (fun k => if (fun _ => false) k || decide (0 < cntG cl k (nms cl 2).length) then (cntG cl k (nms cl 2).length, a, ((fun _ => (0, 0, 0)) k : Nat × Nat × Nat).1 * (a - ((fun _ => (0, 0, 0)) k : Nat × Nat × Nat).2.1) + ((fun _ => (0, 0, 0)) k : Nat × Nat × Nat).2.2) else (fun _ => (0, 0, 0)) k) := by
  intro k
  show (false || decide (0 < cntA cl k)) = _ ∧ (if false || decide (0 < cntA cl k) then (cntA cl k, a, 0 * (a - 0) + 0) else (0, 0, 0)) = _
  simp
theorem one_le {cl : List Ob} {a : Nat} {H : List UInt8 → Bool} {f : List UInt8 → Nat × Nat × Nat} (h : OneL cl a H f) (hcl : cl.length ≤ 60) (t : Nat) (ht : t ≤ 200000) : ∀ k, (f k).1 * (t - (f k).2.1) + (f k).2.2 ≤ 1000000000000 := by
  intro k
  have hc := cntA_le cl k
  rw [(h k).2]
  split
  · have : cntA cl k * (t - a) ≤ 60 * 200000 := Nat.mul_le_mul (by omega) (by omega)
    show cntA cl k * (t - a) + 0 ≤ _
    omega
  · simp
def TwoL (cl cl2 : List Ob) (a b : Nat) (H : List UInt8 → Bool) (f : List UInt8 → Nat × Nat × Nat) : Prop :=
  ∀ k, (H k = true ↔ 0 < cntA cl k + cntA cl2 k) ∧ (H k = true → (f k).1 = cntA cl2 k ∧ (f k).1 * (a + b + 7 - (f k).2.1) + (f k).2.2 = cntA cl k * b + 7 * cntA cl2 k)
theorem two_look {cl cl2 : List Ob} {a b : Nat} {H : List UInt8 → Bool} {f : List UInt8 → Nat × Nat × Nat} (h : OneL cl a H f) : TwoL cl cl2 a b (fun k => H k || decide (0 < cntG cl2 k (nms cl2 2).length)) (fun k => if H k || decide (0 < cntG cl2 k (nms cl2 2).length) then (cntG cl2 k (nms cl2 2).length, a + b, (f k).1 * (a + b - (f k).2.1) + (f k).2.2) else f k) := by
  intro k
  show ((H k || decide (0 < cntA cl2 k)) = true ↔ _) ∧ ((H k || decide (0 < cntA cl2 k)) = true → (if H k || decide (0 < cntA cl2 k) then (cntA cl2 k, a + b, (f k).1 * (a + b - (f k).2.1) + (f k).2.2) else f k).1 = _ ∧ (if H k || decide (0 < cntA cl2 k) then (cntA cl2 k, a + b, (f k).1 * (a + b - (f k).2.1) + (f k).2.2) else f k).1 * (a + b + 7 - (if H k || decide (0 < cntA cl2 k) then (cntA cl2 k, a + b, (f k).1 * (a + b - (f k).2.1) + (f k).2.2) else f k).2.1) + (if H k || decide (0 < cntA cl2 k) then (cntA cl2 k, a + b, (f k).1 * (a + b - (f k).2.1) + (f k).2.2) else f k).2.2 = _)
  refine ⟨?_, fun hh => ?_⟩
  · rw [(h k).1]
    simp only [Bool.or_eq_true, decide_eq_true_eq]
    omega
  · rw [if_pos hh]
    refine ⟨rfl, ?_⟩
    show cntA cl2 k * (a + b + 7 - (a + b)) + ((f k).1 * (a + b - (f k).2.1) + (f k).2.2) = _
    have e1 : a + b + 7 - (a + b) = 7 := by omega
    have e2 : (f k).1 * (a + b - (f k).2.1) + (f k).2.2 = cntA cl k * b := by
      rw [(h k).2]
      split
      · show cntA cl k * (a + b - a) + 0 = _
        rw [show a + b - a = b by omega]
        omega
      · have h0 : cntA cl k = 0 := by omega
        rw [h0]
        simp
    rw [e1, e2, Nat.mul_comm 7]
    omega
theorem rd_nums (X Y b T : Nat) (hX : X ≤ 60) (hY : Y ≤ 60) (hb : b ≤ 65535) (hT : T = X * b + 7 * Y) (hp : 0 < X + Y) :
    ∃ Xb Y7 S : Nat, wrap64 (Y : Int) = (Y : Int) ∧ IntKind.u64.wrap (b : Int) = (b : Int) ∧ IntKind.u64.wrap ((X : Int) * (b : Int)) = (Xb : Int) ∧ IntKind.u64.wrap (7 * (Y : Int)) = (Y7 : Int) ∧ IntKind.u64.wrap ((Xb : Int) + (Y7 : Int)) = (T : Int) ∧ IntKind.u64.wrap ((X : Int) + (Y : Int)) = (S : Int) ∧ ((S : Int) == 0) = false := by
  have hXb : X * b ≤ 3932100 := Nat.le_trans (Nat.mul_le_mul hX hb) (by decide)
  obtain ⟨Xb, hXbe⟩ : ∃ Xb, Xb = X * b := ⟨_, rfl⟩
  have e : (X : Int) * (b : Int) = (Xb : Int) := by rw [hXbe]; exact (Int.natCast_mul X b).symm
  rw [← hXbe] at hT hXb
  clear hXbe
  refine ⟨Xb, 7 * Y, X + Y, IntWalk.wrap64_in _ (by omega), IntWalk.u64_in _ (by omega), ?_, ?_, ?_, ?_, ?_⟩
  · rw [e]
    exact IntWalk.u64_in _ (by omega)
  · rw [IntWalk.u64_in _ (by omega)]
    omega
  · rw [IntWalk.u64_in _ (by omega)]
    omega
  · rw [IntWalk.u64_in _ (by omega)]
    omega
  · have h2 : ¬ (((X + Y : Nat) : Int)) = 0 := by omega
    simpa using h2
theorem two_rd {cl cl2 : List Ob} {a b : Nat} {H : List UInt8 → Bool} {f : List UInt8 → Nat × Nat × Nat} (h : TwoL cl cl2 a b H f) {k : List UInt8} (hk : H k = true) : rdV f (a + b + 7) k = [.string ⟨k.toArray⟩, .int .i64 (cntA cl2 k), .int .u64 ((cntA cl k * b + 7 * cntA cl2 k : Nat) : Int)] := by
  have h1 := (h k).2 hk
  unfold rdV
  rw [h1.2, h1.1]
theorem two_le {cl cl2 : List Ob} {a b : Nat} {H : List UInt8 → Bool} {f : List UInt8 → Nat × Nat × Nat} (h : TwoL cl cl2 a b H f) (z : Ob) (hz : z ∈ cl ∨ z ∈ cl2) (hk : z.kind = 2) (hu : (keys cl).Nodup) (hu2 : (keys cl2).Nodup) : H (gname z).data.toList = true := by
  rw [(h _).1]
  have hg : inGrp (gname z).data.toList z = true := by unfold inGrp; exact decide_eq_true rfl
  rcases hz with hz | hz
  · have : 0 < cntA cl (gname z).data.toList := cntP_pos hu hz hk hg
    omega
  · have : 0 < cntA cl2 (gname z).data.toList := cntP_pos hu2 hz hk hg
    omega
end Go.Proofs.Ytoobjfpkdlffpaa
end
section
namespace Go.Proofs.Ytoobjfpkdlffpaa
open Go.RowKit Go.Proofs.Mem
set_option linter.unusedVariables false
set_option linter.unusedSimpArgs false
set_option maxRecDepth 100000 in
def mnF (s0 m r15 rb : Nat) (j : Int) (f : Nat → Value) : Array Value := #[f 0, f 1, f 2, f 3, f 4, f 5, f 6, f 7, .pointer (some ⟨s0, 0, none⟩), f 9, f 10, .pointer (some ⟨m, 0, none⟩), f 12, f 13, f 14, .pointer (some ⟨r15, 0, none⟩), .int .i64 0, f 17, f 18, f 19, f 20, f 21, f 22, f 23, f 24, f 25, f 26, f 27, f 28, f 29, f 30, f 31, f 32, f 33, f 34, f 35, f 36, f 37, f 38, f 39, f 40, f 41, f 42, f 43, f 44, f 45, f 46, f 47, f 48, f 49, f 50, f 51, f 52, f 53, f 54, f 55, f 56, f 57, f 58, f 59, f 60, f 61, f 62, f 63, f 64, f 65, f 66, f 67, f 68, f 69, f 70, f 71, f 72, f 73, f 74, f 75, f 76, f 77, f 78, f 79, f 80, f 81, f 82, f 83, f 84, f 85, f 86, f 87, f 88, f 89, f 90, f 91, f 92, f 93, f 94, f 95, f 96, f 97, f 98, f 99, f 100, f 101, f 102, f 103, f 104, f 105, f 106, f 107, f 108, f 109, f 110, f 111, f 112, f 113, f 114, f 115, f 116, f 117, f 118, f 119, f 120, f 121, f 122, f 123, f 124, f 125, f 126, f 127, f 128, f 129, f 130, .slice (some ⟨rb, 0, none⟩) 2 2, .int .i64 2, .int .i64 j, f 134, f 135, f 136, f 137, f 138, f 139, f 140, f 141, f 142, f 143, f 144, f 145, f 146, f 147, f 148, f 149, f 150, f 151, f 152, f 153, f 154, f 155, f 156, f 157, f 158, f 159, f 160, f 161, f 162, f 163, f 164, f 165, f 166, f 167, f 168, f 169, f 170, f 171, f 172, f 173, f 174, f 175, f 176]
set_option maxRecDepth 100000 in
def mnG (s0 r15 q2 : Nat) (f : Nat → Value) : Array Value := #[f 0, f 1, f 2, f 3, f 4, f 5, f 6, f 7, .pointer (some ⟨s0, 0, none⟩), f 9, f 10, f 11, f 12, f 13, f 14, .pointer (some ⟨r15, 0, none⟩), f 16, f 17, f 18, f 19, f 20, f 21, f 22, .pointer (some ⟨q2, 0, none⟩), f 24, f 25, f 26, f 27, f 28, f 29, f 30, f 31, f 32, f 33, f 34, f 35, f 36, f 37, f 38, f 39, f 40, f 41, f 42, f 43, f 44, f 45, f 46, f 47, f 48, f 49, f 50, f 51, f 52, f 53, f 54, f 55, f 56, f 57, f 58, f 59, f 60, f 61, f 62, f 63, f 64, f 65, f 66, f 67, f 68, f 69, f 70, f 71, f 72, f 73, f 74, f 75, f 76, f 77, f 78, f 79, f 80, f 81, f 82, f 83, f 84, f 85, f 86, f 87, f 88, f 89, f 90, f 91, f 92, f 93, f 94, f 95, f 96, f 97, f 98, f 99, f 100, f 101, f 102, f 103, f 104, f 105, f 106, f 107, f 108, f 109, f 110, f 111, f 112, f 113, f 114, f 115, f 116, f 117, f 118, f 119, f 120, f 121, f 122, f 123, f 124, f 125, f 126, f 127, f 128, f 129, f 130, f 131, f 132, f 133, f 134, f 135, f 136, f 137, f 138, f 139, f 140, f 141, f 142, f 143, f 144, f 145, f 146, f 147, f 148, f 149, f 150, f 151, f 152, f 153, f 154, f 155, f 156, f 157, f 158, f 159, f 160, f 161, f 162, f 163, f 164, f 165, f 166, f 167, f 168, f 169, f 170, f 171, f 172, f 173, f 174, f 175, f 176]
set_option maxRecDepth 100000 in
def mnH (s0 r15 q2 : Nat) (Ag : Option Addr) (n cg : Nat) (met : Bool) (j : Int) (f : Nat → Value) : Array Value := #[f 0, f 1, f 2, f 3, f 4, f 5, f 6, f 7, .pointer (some ⟨s0, 0, none⟩), f 9, f 10, f 11, f 12, f 13, f 14, .pointer (some ⟨r15, 0, none⟩), f 16, f 17, f 18, f 19, f 20, f 21, f 22, .pointer (some ⟨q2, 0, none⟩), .bool met, f 25, f 26, f 27, f 28, f 29, f 30, f 31, f 32, f 33, f 34, f 35, f 36, f 37, f 38, f 39, f 40, f 41, f 42, f 43, f 44, f 45, f 46, f 47, f 48, f 49, f 50, f 51, f 52, f 53, f 54, f 55, f 56, f 57, f 58, f 59, f 60, f 61, f 62, f 63, f 64, f 65, f 66, f 67, f 68, f 69, f 70, f 71, f 72, f 73, f 74, f 75, f 76, f 77, f 78, f 79, f 80, f 81, f 82, f 83, f 84, f 85, f 86, f 87, f 88, f 89, f 90, f 91, f 92, f 93, f 94, f 95, f 96, f 97, f 98, f 99, f 100, f 101, f 102, f 103, f 104, f 105, f 106, f 107, f 108, f 109, f 110, f 111, f 112, f 113, f 114, f 115, f 116, f 117, f 118, f 119, f 120, f 121, f 122, f 123, f 124, f 125, f 126, f 127, f 128, f 129, f 130, f 131, f 132, f 133, f 134, f 135, f 136, f 137, f 138, f 139, .slice Ag n cg, .int .i64 n, .int .i64 j, f 143, f 144, f 145, f 146, f 147, f 148, f 149, f 150, f 151, f 152, f 153, f 154, f 155, f 156, f 157, f 158, f 159, f 160, f 161, f 162, f 163, f 164, f 165, f 166, f 167, f 168, f 169, f 170, f 171, f 172, f 173, f 174, f 175, f 176]
def IsM2 (wb : World) (s0 m r15 rb : Nat) (a : Act) (W : World) : Prop :=
  ∃ (j : Nat) (f : Nat → Value) (ms : List Nat), j ≤ 2 ∧ a = ⟨mnF s0 m r15 rb j f, ms.map mkM⟩ ∧ ms.Nodup ∧ (∀ D ∈ ms, W.heap[D]? = some (.deferred (some [])) ∧ wb.heap.size ≤ D) ∧ Below wb.heap.size wb W
theorem isM2_intro {wb : World} {s0 m r15 rb : Nat} {W : World} {ms : List Nat} (t : Array Value) (j : Nat) (h : t = mnF s0 m r15 rb j (fun i => t.getD i undef)) (hj : j ≤ 2) (hnd : ms.Nodup) (hm : ∀ D ∈ ms, W.heap[D]? = some (.deferred (some [])) ∧ wb.heap.size ≤ D) (hb : Below wb.heap.size wb W) : IsM2 wb s0 m r15 rb ⟨t, ms.map mkM⟩ W :=
  ⟨j, _, ms, hj, by rw [← h], hnd, hm, hb⟩
def m2K (a : Act) : Nat := 2 - (intOf (a.tmps.getD 133 undef)).toNat
structure IsMR (wb : World) (q : Nat) (ms : List Nat) (pre : List Ob) (W : World) : Prop where
  mark : ∀ D ∈ ms, W.heap[D]? = some (.deferred (some [])) ∧ wb.heap.size ≤ D ∧ D < q
  low : Below wb.heap.size wb W
  zs : q ≤ W.heap.size
theorem IsMR.own {wb : World} {q B : Nat} {ms : List Nat} (hq : q ≤ B) (hw : wb.heap.size ≤ B) : OwnFrom B (IsMR wb q ms) := fun pre W W' row h hg hr =>
  { mark := fun D hD => by
      obtain ⟨h1, h2, h3⟩ := h.mark D hD
      refine ⟨(hg.block D (Array.getElem?_eq_some_iff.1 h1).1 fun e => ?_).trans h1, h2, h3⟩
      have := (hr D e.symm).1
      omega
    low := h.low.grown hg h.low.size fun r e => Nat.le_trans hw (hr r e).1
    zs := Nat.le_trans h.zs hg.size }
theorem IsMR.below {wb W W' : World} {q : Nat} {ms : List Nat} {pre pre' : List Ob} (h : IsMR wb q ms pre W) (hb : Below W.heap.size W W') : IsMR wb q ms pre' W' where
  mark := fun D hD => by
    obtain ⟨h1, h2, h3⟩ := h.mark D hD
    exact ⟨(hb.block D (Array.getElem?_eq_some_iff.1 h1).1).trans h1, h2, h3⟩
  low := below_tr h.low hb
  zs := Nat.le_trans h.zs hb.size
def IsMAx (cl : List Ob) (s0 r15 z : Nat) (pre : List Ob) (x : Ob) (a : Act) (W : World) : Prop :=
  ∃ q2 f, a = ⟨mnG s0 r15 q2 f, []⟩ ∧ z ≤ q2 ∧ Bk W q2 57 x.cells.toArray ∧ KnL cl 2 pre x W
theorem isMAx_intro {cl : List Ob} {s0 r15 z : Nat} {pre : List Ob} {x : Ob} {W : World} (t : Array Value) (q2 : Nat) (h : t = mnG s0 r15 q2 (fun i => t.getD i undef)) (hq : z ≤ q2) (hb : Bk W q2 57 x.cells.toArray) (hk : KnL cl 2 pre x W) : IsMAx cl s0 r15 z pre x ⟨t, []⟩ W :=
  ⟨q2, _, by rw [← h], hq, hb, hk⟩
def IsM3 (A : World) (s0 r15 q2 : Nat) (Ag : Option Addr) (cg : Nat) (l : List (List UInt8)) (g : List UInt8) (a : Act) (W : World) : Prop :=
  ∃ (j : Nat) (f : Nat → Value), j ≤ l.length ∧ a = ⟨mnH s0 r15 q2 Ag l.length cg (decide (g ∈ l.take j)) j f, []⟩ ∧ Below A.heap.size A W
theorem isM3_intro {A : World} {s0 r15 q2 : Nat} {Ag : Option Addr} {cg : Nat} {l : List (List UInt8)} {g : List UInt8} {W : World} (t : Array Value) (j : Nat) (met : Bool) (hm : met = decide (g ∈ l.take j)) (h : t = mnH s0 r15 q2 Ag l.length cg met j (fun i => t.getD i undef)) (hj : j ≤ l.length) (hb : Below A.heap.size A W) : IsM3 A s0 r15 q2 Ag cg l g ⟨t, []⟩ W :=
  ⟨j, _, hj, by rw [← hm, ← h], hb⟩
def m3K (n : Nat) (a : Act) : Nat := n - (intOf (a.tmps.getD 142 undef)).toNat
theorem met_next {l : List (List UInt8)} {j : Nat} {s g : List UInt8} (hs : l[j]? = some s) : decide (g ∈ l.take (j + 1)) = (decide (g ∈ l.take j) || decide (s = g)) := by
  rw [← Bool.decide_or]
  refine decide_eq_decide.2 ?_
  rw [take_mem hs g]
  constructor <;> (rintro (h | h) <;> simp [h])
theorem nodes_none (m : Value) (now : Int) (w : World) : Calls Try.prog 17 #[m, .pointer none, .int .i64 now] w fun e w' => e = .returned (.int .i64 1) ∧ Below w.heap.size w w' := by
  refine (callsIn_wide (n := 7)).1 ?_
  refine callsIn_of_wp_marks Try.func17 rfl trivial ?_ rfl
  simp only [Try.ntmps17, List.size_toArray, List.length_cons, List.length_nil, Nat.reduceAdd, Nat.reduceSub, Array.replicate_succ, Array.replicate_zero, List.push_toArray, List.append_toArray, List.nil_append, List.cons_append]
  refine wpIn_seq ?_
  refine wpIn_wide.2 ?_
  refine wp_hide fun QA HQA => ?_
  go_wp2_with fail
  rw [HQA.out]
  simp only [Exit.then]
  clear HQA
  refine wpIn_seq ?_
  refine wpIn_wide.2 ?_
  refine wp_hide fun QB HQB => ?_
  go_wp2_with fail
  rw [HQB.out]
  simp only [Exit.then]
  refine marks_leave [] w List.nodup_nil (fun D h => by cases h) fun w' a1 a2 a3 a4 a5 => ?_
  refine ⟨.int .i64 1, ?_, rfl, ⟨a1, a2, a3, by rw [a4]; exact Nat.le_refl _, fun i hi => a5 i (by simp)⟩⟩
  simp [results, Try.results17, go_sem]
end Go.Proofs.Ytoobjfpkdlffpaa
end
section
namespace Go.Proofs.Ytoobjfpkdlffpaa
open Go.RowKit Go.Proofs.Mem
set_option linter.unusedVariables false
set_option linter.unusedSimpArgs false
attribute [local go_sem] Oper.semAt_some
set_option maxHeartbeats 8000000 in
set_option maxRecDepth 100000 in
theorem meterNodes_any (w : World) (A1 : Option Addr) (c1 : Nat) (l1 : List Ob) (hA1 : Sl w 47 (.slice A1 l1.length c1) l1.length (l1.flatMap Ob.cells)) (hok1 : ∀ x ∈ l1, x.Ok w) (hlen1 : l1.length ≤ maxLen)
    (A2 : Option Addr) (c2 : Nat) (l2 : List Ob) (hA2 : Sl w 47 (.slice A2 l2.length c2) l2.length (l2.flatMap Ob.cells)) (hok2 : ∀ x ∈ l2, x.Ok w) (hlen2 : l2.length ≤ maxLen) (a b : Nat) (ha : a ≤ 65535) (hb : b ≤ 65535) :
    Calls Try.prog 4 #[.slice A1 l1.length c1, .slice A2 l2.length c2, .int .u16 a, .int .u16 b] w fun e w' => e = .returned (.bool true) ∧ Below w.heap.size w w' := by
  have HL := Lib.hid (And.intro hA1 (And.intro hok1 (And.intro hlen1 (And.intro hA2 (And.intro hok2 hlen2)))))
  have HAB := Lib.hid (And.intro ha hb)
  clear hA1 hok1 hlen1 hA2 hok2 hlen2 ha hb
  refine (callsIn_wide (n := 7)).1 ?_
  refine callsIn_of_wp_marks Try.func4 rfl trivial ?_ rfl
  simp only [Try.ntmps4, List.size_toArray, List.length_cons, List.length_nil, Nat.reduceAdd, Nat.reduceSub, Array.replicate_succ, Array.replicate_zero, List.push_toArray, List.append_toArray, List.nil_append, List.cons_append]
  refine wpIn_seq ?_
  refine wpIn_wide.2 ?_
  refine wp_hide fun QA HQA => ?_
  go_wp2_with fail
  rw [HQA.out]
  simp only [Exit.then]
  clear HQA
  have g2 := Bk.new w 4 #[.bool false]
  have gB := below_al w (.cells #[.bool false] 4)
  obtain ⟨W0, hW0⟩ : ∃ W0, W0 = w.alloc (.cells #[.bool false] 4) := ⟨_, rfl⟩
  have gz : W0.heap.size = w.heap.size + 1 := by rw [hW0]; simp
  rw [← hW0] at g2 gB ⊢
  clear hW0
  have HG := Lib.hid (And.intro g2 (And.intro gB gz))
  clear g2 gB gz
  refine wpIn_seq ?_
  refine wpIn_wide.2 ?_
  refine wp_hide fun QB HQB => ?_
  go_wp2_with fail
  refine (stocked_any W0 A1 c1 l1 (HL.out.1.below HG.out.2.1) (fun x hx => (HL.out.2.1 x hx).below HG.out.2.1) HL.out.2.2.1).mono ?_
  rintro e W1 ⟨hS, b1⟩
  have HS := Lib.hid b1
  clear b1
  have hrv : ∃ v1, e = .returned v1 ∧ (v1 = .pointer none ∨ ∃ p b evs cl, v1 = .pointer (some ⟨p, 0, none⟩) ∧ S8 W0.heap.size W1 p b 200 evs cl ∧ evs.length ≤ 60) := by
    rcases hS with rfl | ⟨p, b, evs, cl, rfl, h⟩
    · exact ⟨_, rfl, .inl rfl⟩
    · exact ⟨_, rfl, .inr ⟨p, b, evs, cl, rfl, h⟩⟩
  obtain ⟨v1, rfl, hv1⟩ := hrv
  clear hS
  go_wp2_with fail
  refine (stocked_any W1 A2 c2 l2 (HL.out.2.2.2.1.below (below_tr HG.out.2.1 HS.out)) (fun x hx => (HL.out.2.2.2.2.1 x hx).below (below_tr HG.out.2.1 HS.out)) HL.out.2.2.2.2.2).mono ?_
  rintro e W2 ⟨hS, b2⟩
  have HS2 := Lib.hid b2
  clear b2
  have hrv : ∃ v2, e = .returned v2 ∧ (v2 = .pointer none ∨ ∃ p b evs cl, v2 = .pointer (some ⟨p, 0, none⟩) ∧ S8 W1.heap.size W2 p b 200 evs cl ∧ evs.length ≤ 60) := by
    rcases hS with rfl | ⟨p, b, evs, cl, rfl, h⟩
    · exact ⟨_, rfl, .inl rfl⟩
    · exact ⟨_, rfl, .inr ⟨p, b, evs, cl, rfl, h⟩⟩
  obtain ⟨v2, rfl, hv2⟩ := hrv
  clear hS
  go_wp2_with fail
  rw [HQB.out]
  simp only [Exit.then]
  clear HQB
  have B2 := below_tr HG.out.2.1 (below_tr HS.out HS2.out)
  have k2 := HG.out.1.below' (below_tr HS.out HS2.out)
  have H2 := Lib.hid (And.intro B2 k2)
  clear B2 k2
  have fin : ∀ (ms : List Nat) (T : Array Value) (Z : World), ms.Nodup → (∀ D ∈ ms, Z.heap[D]? = some (.deferred (some [])) ∧ w.heap.size < D) → T.getD 8 undef = .pointer (some ⟨w.heap.size, 0, none⟩) → Bk Z w.heap.size 4 #[.bool true] → Below w.heap.size w Z → LeavesInM Fence.wide 7 Try.prog Try.f4 T (fun e w' => e = .returned (.bool true) ∧ Below w.heap.size w w') (ms.map fun D => ({ target := .collected D, args := #[] } : Deferred)) .returning Z := by
    intro ms T Z hnd hms hT k6 B6
    refine marks_leave ms _ hnd (fun D h => (hms D h).1) fun w' a1 a2 a3 a4 a5 => ?_
    have k9 : Bk w' w.heap.size 4 #[.bool true] := (a5 _ (fun h => by have := (hms _ h).2; omega)).trans k6
    have hc5 := k9.cell 0
    refine ⟨.bool true, ?_, rfl, ⟨a1.trans B6.os, a2.trans B6.tape, a3.trans B6.output, by rw [a4]; exact B6.size, fun i hi => (a5 i (fun h => by have := (hms _ h).2; omega)).trans (B6.block i hi)⟩⟩
    have hT' : T[8]?.getD undef = .pointer (some ⟨w.heap.size, 0, none⟩) := by rw [← hT, Array.getD_eq_getD_getElem?]
    simp [results, Try.results4, go_sem, hc5, hT']
  have FIN := Lib.hid fin
  clear fin
  have none2 : Hid (v1 = .pointer none ∨ v2 = .pointer none ∨ ∃ p b evs cl p2 b2 evs2 cl2, v1 = .pointer (some ⟨p, 0, none⟩) ∧ v2 = .pointer (some ⟨p2, 0, none⟩) ∧ S8 W0.heap.size W2 p b 200 evs cl ∧ evs.length ≤ 60 ∧ S8 W1.heap.size W2 p2 b2 200 evs2 cl2 ∧ evs2.length ≤ 60) := by
    rcases hv1 with h | ⟨p, b, evs, cl, h, hM, he⟩
    · exact .inl h
    · rcases hv2 with h2 | ⟨p2, b2, evs2, cl2, h2, hM2, he2⟩
      · exact .inr (.inl h2)
      · exact .inr (.inr ⟨p, b, evs, cl, p2, b2, evs2, cl2, h, h2, hM.below HS2.out, he, hM2, he2⟩)
  have out2 : v1 = .pointer none ∨ (∃ x, v1 = .pointer (some x)) := by
    rcases hv1 with h | ⟨p, b, evs, cl, h, _⟩
    · exact .inl h
    · exact .inr ⟨_, h⟩
  clear hv1 hv2
  refine wpIn_seq ?_
  refine wpIn_wide.2 ?_
  refine wp_hide fun QC HQC => ?_
  go_wp2_with fail
  refine (lives41_any W2).mono ?_
  rintro e W3 ⟨rfl, b3⟩
  have H3 := Lib.hid b3
  clear b3
  by_cases hn : v1 = .pointer none ∨ v2 = .pointer none
  · have stop : ∀ (T : Array Value) (W4 : World), T.getD 8 undef = .pointer (some ⟨w.heap.size, 0, none⟩) → Below W3.heap.size W3 W4 → LeavesInM Fence.wide 7 Try.prog Try.f4 T (fun e w' => e = .returned (.bool true) ∧ Below w.heap.size w w') [] .returning (W4.setCell ⟨w.heap.size, 0, none⟩ (.bool true)) := fun T W4 hT b4 => by
      have h := FIN.out [] T (W4.setCell ⟨w.heap.size, 0, none⟩ (.bool true)) List.nodup_nil (fun D h => by cases h) hT ((H2.out.2.below' (below_tr H3.out b4)).set 0 (.bool true)) ((below_tr H2.out.1 (below_tr H3.out b4)).setCell (p := ⟨w.heap.size, 0, none⟩) (Nat.le_refl _) _)
      exact h
    have STOP := Lib.hid stop
    clear stop
    rcases out2 with h1 | ⟨x1, h1⟩
    · subst h1
      clear hn none2
      go_wp2_with fail
      refine (lives41_any W3).mono ?_
      rintro e W4 ⟨rfl, b4⟩
      have k4 := H2.out.2.below' (below_tr H3.out b4)
      have e4 := k4.cell 0
      have f4 := k4.frozen 0
      go_wp2_with fail
      rw [HQC.out]
      simp only [Exit.then]
      exact STOP.out _ _ rfl b4
    · subst h1
      have h2 : v2 = .pointer none := by
        rcases hn with h | h
        · cases h
        · exact h
      subst h2
      clear hn none2
      go_wp2_with fail
      refine (lives41_any W3).mono ?_
      rintro e W4 ⟨rfl, b4⟩
      have k4 := H2.out.2.below' (below_tr H3.out b4)
      have e4 := k4.cell 0
      have f4 := k4.frozen 0
      go_wp2_with fail
      rw [HQC.out]
      simp only [Exit.then]
      exact STOP.out _ _ rfl b4
  · have hM := none2.out.resolve_left (fun h => hn (.inl h)) |>.resolve_left (fun h => hn (.inr h))
    obtain ⟨p, bp, evs, cl, p2, bp2, evs2, cl2, rfl, rfl, hM1, he1, hM2, he2⟩ := hM
    have HM := Lib.hid (And.intro (hM1.below H3.out) (And.intro he1 (And.intro (hM2.below H3.out) he2)))
    clear hM1 he1 hM2 he2 none2 out2 hn
    go_wp2_with fail
    rw [HQC.out]
    simp only [Exit.then]
    clear HQC
    have hle1 : cl.length ≤ 60 := by
      obtain ⟨_, _, _, _, _, _, _, h, _⟩ := HM.out.1
      have := HM.out.2.1
      omega
    have hle2 : cl2.length ≤ 60 := by
      obtain ⟨_, _, _, _, _, _, _, h, _⟩ := HM.out.2.2.1
      have := HM.out.2.2.2
      omega
    obtain ⟨t2, ht2⟩ : ∃ t2, t2 = a + b := ⟨_, rfl⟩
    obtain ⟨t3, ht3⟩ : ∃ t3, t3 = a + b + 7 := ⟨_, rfl⟩
    have hab := HAB.out
    have hw2 : wrap64 ((a : Int) + (b : Int)) = (t2 : Int) := by
      rw [IntWalk.wrap64_in _ (by omega)]
      omega
    have hw3 : wrap64 ((t2 : Int) + 7) = (t3 : Int) := by
      rw [IntWalk.wrap64_in _ (by omega)]
      omega
    have hwa : wrap64 (a : Int) = (a : Int) := IntWalk.wrap64_in _ (by omega)
    have hwb : wrap64 (b : Int) = (b : Int) := IntWalk.wrap64_in _ (by omega)
    have HLT := Lib.hid (And.intro hle1 (And.intro hle2 (And.intro ht2 (And.intro ht3 (And.intro hab (And.intro hw2 (And.intro hw3 (And.intro hwa hwb))))))))
    clear hle1 hle2 ht2 ht3 hab hw2 hw3 hwa hwb
    refine wpIn_seq ?_
    refine wpIn_wide.2 ?_
    refine wp_hide fun QD HQD => ?_
    go_wp2_with fail
    refine (mnew_any W3).mono ?_
    rintro e W4 ⟨m, mb, rfl, hmb, hMt, b4⟩
    have HN4 := Lib.hid (And.intro (mtF_new hMt) (And.intro hmb (And.intro hMt.1 (And.intro b4 (And.intro (HM.out.1.below b4) (HM.out.2.2.1.below b4))))))
    clear hmb hMt b4
    go_wp2_with fail
    rw [HQD.out]
    simp only [Exit.then]
    clear HQD
    have CN1 := Lib.hid (nodes_any HN4.out.2.2.2.2.1 (by have := HLT.out.1; omega) HN4.out.1 a (Nat.zero_le _) (by have := HLT.out.2.2.2.2.1; omega) (by omega) (fun k => by simp))
    refine wpIn_seq ?_
    refine wpIn_wide.2 ?_
    refine wp_hide fun QE HQE => ?_
    have hw2 := HLT.out.2.2.2.2.2.1
    have hwa := HLT.out.2.2.2.2.2.2.2.1
    have hwb := HLT.out.2.2.2.2.2.2.2.2
    go_wp2_with fail
    refine CN1.out.mono ?_
    rintro e W5 ⟨rfl, ⟨n1, la1, hn1, hl1, hMF1⟩, hT1⟩
    obtain ⟨H1, f1, hMF1', hone⟩ : ∃ H1 f1, MtF W5 m mb n1 la1 H1 f1 ∧ OneL cl a H1 f1 := ⟨_, _, hMF1, one_look cl a⟩
    have hB35 : Below W3.heap.size W3 W5 := HN4.out.2.2.2.1.trans (hT1.low HN4.out.2.2.2.1.size fun j hj => by have h1 := HN4.out.2.1; have h2 := HN4.out.2.2.1; rcases hj with hj | hj <;> omega)
    have HN5 := Lib.hid (And.intro hMF1' (And.intro hone (And.intro hB35 (And.intro (HM.out.1.below hB35) (And.intro (HM.out.2.2.1.below hB35) (And.intro hn1 hl1))))))
    clear hMF1 hMF1' hone hB35 hT1 hn1 hl1 CN1
    have CN2 := Lib.hid (nodes_any HN5.out.2.2.2.2.1 (by have := HLT.out.2.1; omega) HN5.out.1 t2 (by have h1 := HN5.out.2.2.2.2.2.2; have h2 := HLT.out.2.2.1; omega) (by have h2 := HLT.out.2.2.1; have := HLT.out.2.2.2.2.1; omega) (by have h1 := HN5.out.2.2.2.2.2.1; have h2 := HLT.out.1; omega) (one_le HN5.out.2.1 HLT.out.1 t2 (by have h2 := HLT.out.2.2.1; have := HLT.out.2.2.2.2.1; omega)))
    go_wp2_with fail
    refine CN2.out.mono ?_
    rintro e W6 ⟨rfl, ⟨n2, la2, hn2, hl2, hMF2⟩, hT2⟩
    have htwo := two_look (cl2 := cl2) (b := b) HN5.out.2.1
    rw [← HLT.out.2.2.1] at htwo
    obtain ⟨H2', f2, hMF2', htwo'⟩ : ∃ H2 f2, MtF W6 m mb n2 la2 H2 f2 ∧ TwoL cl cl2 a b H2 f2 := ⟨_, _, hMF2, htwo⟩
    have hB36 : Below W3.heap.size W3 W6 := HN5.out.2.2.1.trans (hT2.low HN5.out.2.2.1.size fun j hj => by have h1 := HN4.out.2.1; have h2 := HN4.out.2.2.1; rcases hj with hj | hj <;> omega)
    have HN6 := Lib.hid (And.intro hMF2' (And.intro htwo' (And.intro hB36 (And.intro hn2 hl2))))
    clear hMF2 hMF2' htwo htwo' hB36 hT2 hn2 hl2 CN2
    go_wp2_with fail
    rw [HQE.out]
    simp only [Exit.then]
    clear HQE
    refine wpIn_seq ?_
    refine wpIn_wide.2 ?_
    refine wp_hide fun QG HQG => ?_
    go_wp2_with fail
    rw [HQG.out]
    simp only [Exit.then]
    clear HQG
    refine wpIn_seq ?_
    refine wpIn_wide.2 ?_
    refine wp_hide fun QH HQH => ?_
    go_wp2_with fail
    rw [HQH.out]
    simp only [Exit.then]
    clear HQH
    have hw3 := HLT.out.2.2.2.2.2.2.1
    have CA := Lib.hid (all_any HN6.out.1 t3 (by have h1 := HN6.out.2.2.2.2; have h2 := HLT.out.2.2.1; have h3 := HLT.out.2.2.2.1; omega) (by have h3 := HLT.out.2.2.2.1; have := HLT.out.2.2.2.2.1; omega) (by have h1 := HN6.out.2.2.2.1; have h2 := HN5.out.2.2.2.2.2.1; have h3 := HLT.out.1; have h4 := HLT.out.2.1; omega))
    refine wpIn_seq ?_
    refine wpIn_wide.2 ?_
    refine wp_hide fun QI HQI => ?_
    go_wp2_with fail
    refine CA.out.mono ?_
    rintro e W7 ⟨Ag, cg, l, rfl, hmem, hnd, hasc, hln, hSl, hT7, hMF7⟩
    go_wp2_with fail
    rw [HQI.out]
    simp only [Exit.then]
    clear HQI CA hw2 hw3 hwa hwb
    have hmb6 : W3.heap.size ≤ m := by
      have h1 := HN4.out.2.1
      have h2 := HN4.out.2.2.1
      omega
    have hB37 : Below W3.heap.size W3 W7 := HN6.out.2.2.1.trans (hT7.low HN6.out.2.2.1.size fun j hj => by have h1 : j = m := hj; omega)
    obtain ⟨r15, hr15⟩ : ∃ r, r = W7.heap.size := ⟨_, rfl⟩
    obtain ⟨W8, hW8⟩ : ∃ W8, W8 = W7.alloc (.cells #[.slice Ag l.length cg] 70) := ⟨_, rfl⟩
    have k15 := Bk.new W7 70 #[.slice Ag l.length cg]
    have b78 := below_al W7 (.cells #[.slice Ag l.length cg] 70)
    rw [← hW8] at k15 b78 ⊢
    rw [← hr15] at k15 ⊢
    have hB38 : Below W3.heap.size W3 W8 := hB37.trans (b78.mono hB37.size)
    have h3w : w.heap.size < W3.heap.size := by
      have h1 := H2.out.2.lt
      have h2 := H3.out.size
      omega
    have hr15n : W3.heap.size ≤ r15 := by rw [hr15]; exact hB37.size
    have htwo := HN6.out.2.1
    rw [HLT.out.2.2.2.1] at hSl
    have HK8 := Lib.hid (And.intro k15 (And.intro (hSl.below b78) (And.intro hB38 (And.intro (HM.out.1.below hB38) (And.intro (HM.out.2.2.1.below hB38) (And.intro (H2.out.2.below' (H3.out) : Bk W3 w.heap.size 4 #[.bool false]) (And.intro h3w hr15n)))))))
    have HKL := Lib.hid (And.intro hmem (And.intro hnd (And.intro hasc (And.intro hln (And.intro htwo (fun k hk => by
      obtain ⟨_, _, _, _, h, _⟩ := hMF7
      exact h k hk : ∀ k, H2' k = true → nmB ⟨k.toArray⟩ = true))))))
    clear hmem hnd hasc hln hSl hT7 hMF7 hmb6 hB37 hW8 hr15 k15 b78 hB38 h3w hr15n htwo
    have hll : l.length ≤ 400 := by
      have h1 := HKL.out.2.2.2.1
      have h2 := HN6.out.2.2.2.1
      have h3 := HN5.out.2.2.2.2.2.1
      have h4 := HLT.out.1
      have h5 := HLT.out.2.1
      omega
    have HLL := Lib.hid hll
    clear hll
    have e15 := HK8.out.1.cell 0
    refine wpIn_seq ?_
    refine wpIn_wide.2 ?_
    refine wp_hide fun QK HQK => ?_
    go_wp2_with fail
    clear e15
    go_loopw [75] (fun vj W => ∃ j : Nat, j ≤ l.length ∧ vj = .int .i64 j ∧ Hid (Below W8.heap.size W8 W)) (fun vj _ => l.length - (intOf vj).toNat)
    case atStart => exact ⟨0, Nat.zero_le _, rfl, Lib.hid (Below.refl _ _)⟩
    case round =>
      obtain ⟨j, hj, rfl, hJ⟩ := hrel
      have hj9 := HLL.out
      by_cases hlt : j < l.length
      · obtain ⟨bg, og, rfl, hbg, hadd, hcell⟩ := Sl.row' (s := 3) (f := rdV f2 (a + b + 7)) (fun _ => rfl) (by omega) (HK8.out.2.1.below hJ.out) j hlt
        obtain ⟨k, hk⟩ : ∃ k, k = l[j] := ⟨_, rfl⟩
        have hkm : H2' k = true := (HKL.out.1 k).1 (by rw [hk]; exact List.getElem_mem hlt)
        rw [← hk, two_rd HKL.out.2.2.2.2.1 hkm] at hcell
        have hnm := HKL.out.2.2.2.2.2 k hkm
        have hpos := (HKL.out.2.2.2.2.1 k).1.1 hkm
        obtain ⟨X, hX⟩ : ∃ X, X = cntA cl k := ⟨_, rfl⟩
        obtain ⟨Y, hY⟩ : ∃ Y, Y = cntA cl2 k := ⟨_, rfl⟩
        have hXle : X ≤ 60 := by
          have h1 := cntA_le cl k
          have h2 := HLT.out.1
          omega
        have hYle : Y ≤ 60 := by
          have h1 := cntA_le cl2 k
          have h2 := HLT.out.2.1
          omega
        rw [← hX, ← hY] at hcell hpos
        obtain ⟨T, hT⟩ : ∃ T, T = X * b + 7 * Y := ⟨_, rfl⟩
        rw [← hT] at hcell
        have r0 : wr.cell? ⟨bg, og + j * 3, none⟩ = some (.string ⟨k.toArray⟩) := hcell 0 _ rfl
        have r1 : wr.cell? ⟨bg, og + j * 3 + 1, none⟩ = some (.int .i64 Y) := hcell 1 _ rfl
        have r2 : wr.cell? ⟨bg, og + j * 3 + 2, none⟩ = some (.int .u64 T) := hcell 2 _ rfl
        have hg9 : (⟨k.toArray⟩ : ByteArray) ≠ ⟨#[]⟩ := fun e => by
          have := (nm_sz hnm).2
          rw [e] at this
          exact absurd this (by decide)
        have CX := Lib.hid (fun (w1 : World) (hb1 : Below W8.heap.size W8 w1) => nodesG_any (HK8.out.2.2.2.1.below hb1) (by have := HLT.out.1; omega) ⟨k.toArray⟩ hg9)
        have CY := Lib.hid (fun (w1 : World) (hb1 : Below W8.heap.size W8 w1) => nodesG_any (HK8.out.2.2.2.2.1.below hb1) (by have := HLT.out.2.1; omega) ⟨k.toArray⟩ hg9)
        have hX' : cntG cl (⟨k.toArray⟩ : ByteArray).data.toList (nms cl 2).length = X := by rw [hX]; rfl
        have hY' : cntG cl2 (⟨k.toArray⟩ : ByteArray).data.toList (nms cl2 2).length = Y := by rw [hY]; rfl
        rw [hX'] at CX
        rw [hY'] at CY
        have HJ9 := Lib.hid (And.intro hJ.out (And.intro hk (And.intro hkm (And.intro hpos (And.intro hXle (And.intro hYle (And.intro hT hbg)))))))
        clear hJ hk hkm hpos hXle hYle hT hbg hcell hnm hg9 hX' hY' hX hY
        go_wp2_with fail
        have kx := Bk.new wr 74 #[.string ⟨k.toArray⟩, .int .i64 Y, .int .u64 T]
        have bx := below_al wr (.cells #[.string ⟨k.toArray⟩, .int .i64 Y, .int .u64 T] 74)
        obtain ⟨W9, hW9⟩ : ∃ W9, W9 = wr.alloc (.cells #[.string ⟨k.toArray⟩, .int .i64 Y, .int .u64 T] 74) := ⟨_, rfl⟩
        obtain ⟨q18, hq18⟩ : ∃ q, q = wr.heap.size := ⟨_, rfl⟩
        rw [← hW9] at kx bx ⊢
        rw [← hq18] at kx ⊢
        have hB89 := below_tr HJ9.out.1 bx
        have HX9 := Lib.hid (And.intro kx hB89)
        clear kx bx hW9 hq18 hB89 r0 r1 r2
        have x0 := cell_regrown (HX9.out.1.cell 0)
        refine wp_region_quiet_below (by kernel_rfl) (by kernel_rfl) ?_
        repeat (go_big_quiet_step (first
          | (go_at_call 18; (with_reducible exact Calls.regrown_of (CX.out _ (below_tr HX9.out.2 (below_regrown _ _ _)))))
          | (go_at_call 18; (with_reducible exact Calls.regrown_of (CY.out _ (below_tr HX9.out.2 (below_regrown _ _ _)))))))
        refine wpQuiet_nil ?_
        rintro _ ⟨rp, rfl⟩
        have hBz := below_regrown W9 rp.d rp.os
        generalize «Sort».grow (redrawn W9 rp.d) rp.os = W10 at hBz ⊢
        clear x0 CX CY
        have HX10 := Lib.hid (And.intro (HX9.out.1.below' hBz) (below_tr HX9.out.2 hBz))
        clear hBz HX9
        have y0 := cell_regrown (HX10.out.1.cell 0)
        have y1 : ∀ d os, («Sort».grow (redrawn W10 d) os).cell? ⟨q18, 1, none⟩ = some (.int .i64 Y) := cell_regrown (HX10.out.1.cell 1)
        have y2 : ∀ d os, («Sort».grow (redrawn W10 d) os).cell? ⟨q18, 2, none⟩ = some (.int .u64 T) := cell_regrown (HX10.out.1.cell 2)
        have e15 := cell_regrown ((HK8.out.1.below' HX10.out.2).cell 0)
        have hab := HAB.out
        obtain ⟨Xb, Y7, S, w1, w2, w3, w4, w5, w6, w7⟩ := rd_nums X Y b T HJ9.out.2.2.2.2.1 HJ9.out.2.2.2.2.2.1 hab.2 HJ9.out.2.2.2.2.2.2.1 HJ9.out.2.2.2.1
        clear hab
        go_wp2_with fail
        by_cases hj0 : j = 0
        · have hji : (j : Int) = 0 := by omega
          rw [hji]
          refine wp_region_quiet_below (by kernel_rfl) (by kernel_rfl) ?_
          repeat (go_big_quiet_step (fail))
          refine wpQuiet_nil ?_
          rintro _ ⟨rp, rfl⟩
          have hBz := below_regrown W10 rp.d rp.os
          generalize «Sort».grow (redrawn W10 rp.d) rp.os = W11 at hBz ⊢
          have HZ := Lib.hid (below_tr HX10.out.2 hBz)
          clear hBz y0 y1 y2 e15
          go_wp2_with fail
          exact ⟨⟨1, by omega, by go_num, HZ⟩, by simp [intOf]; omega⟩
        · obtain ⟨jm, hjm⟩ : ∃ jm, j = jm + 1 := ⟨j - 1, by omega⟩
          obtain ⟨bg', og', eA, _, hadd', hcell'⟩ := Sl.row' (s := 3) (f := rdV f2 (a + b + 7)) (fun _ => rfl) (by omega) (HK8.out.2.1.below HX10.out.2) jm (by omega)
          injection eA with eA
          injection eA with eA1 eA2 _
          subst eA1 eA2
          obtain ⟨k', hk'⟩ : ∃ k', k' = l[jm] := ⟨_, rfl⟩
          have hks : k' < k := by
            have h1 := List.pairwise_iff_getElem.1 HKL.out.2.2.1 jm j (by omega) hlt (by omega)
            have h2 := List.pairwise_iff_getElem.1 HKL.out.2.1 jm j (by omega) hlt (by omega)
            rw [hk', HJ9.out.2.1]
            rcases List.le_iff_lt_or_eq.1 h1 with h | h
            · exact h
            · exact absurd h h2
          have rq : W10.cell? ⟨bg, og + jm * 3, none⟩ = some (.string ⟨k'.toArray⟩) := by rw [hk']; exact hcell' 0 _ rfl
          rw [show jm = j - 1 by omega] at rq
          have rq' := cell_regrown rq
          have hcmp : Op.bytesLess k' k = true := by rw [bytesLess_eq]; exact decide_eq_true hks
          have hsub : wrap64 ((j : Int) - 1) = (jm : Int) := by
            rw [IntWalk.wrap64_in _ (by omega)]
            omega
          have hgt : (0 : Int) < (j : Int) := by omega
          have hgtN : 0 < j := by omega
          have hgtD : decide (0 < j) = true := decide_eq_true hgtN
          have hgtE : decide ((0 : Int) < (j : Int)) = true := decide_eq_true hgt
          have hjn : jm < l.length := by omega
          clear rq hks hcell' hk' hjm
          refine wp_region_quiet_below (by kernel_rfl) (by kernel_rfl) ?_
          repeat (go_big_quiet_step (fail))
          refine wpQuiet_nil ?_
          rintro _ ⟨rp, rfl⟩
          have hBz := below_regrown W10 rp.d rp.os
          generalize «Sort».grow (redrawn W10 rp.d) rp.os = W11 at hBz ⊢
          have HZ := Lib.hid (below_tr HX10.out.2 hBz)
          clear hBz y0 y1 y2 e15 rq'
          go_wp2_with fail
          exact ⟨⟨j + 1, by omega, by go_num, HZ⟩, by simp [intOf]; omega⟩
      · have hjl : j = l.length := by omega
        subst hjl
        have HJ9 := Lib.hid hJ.out
        clear hJ
        go_wp2_with fail
        rw [HQK.out]
        simp only [Exit.then]
        clear HQK
        refine wpIn_seq ?_
        refine wpIn_hide fun QL HQL => ?_
        refine wpIn_seq ?_
        refine wpIn_wide.2 ?_
        refine wp_hide fun QM HQM => ?_
        go_wp2_with fail
        rw [HQM.out]
        simp only [Exit.then]
        clear HQM
        obtain ⟨wb, hwb⟩ : ∃ wb, wb = wr.alloc (.cells #[.pointer (some ⟨p, 0, none⟩), .pointer (some ⟨p2, 0, none⟩)] 23) := ⟨_, rfl⟩
        have kb := Bk.new wr 23 #[.pointer (some ⟨p, 0, none⟩), .pointer (some ⟨p2, 0, none⟩)]
        have bb := below_al wr (.cells #[.pointer (some ⟨p, 0, none⟩), .pointer (some ⟨p2, 0, none⟩)] 23)
        obtain ⟨rb, hrb⟩ : ∃ rb, rb = wr.heap.size := ⟨_, rfl⟩
        rw [← hwb] at kb bb ⊢
        rw [← hrb] at kb ⊢
        have hB8b := below_tr HJ9.out bb
        have HWB := Lib.hid (And.intro kb hB8b)
        clear hwb kb bb hrb hB8b
        have hrbl := HWB.out.1.lt
        refine wpIn_block ?_
        refine wpIn_loop (IsM2 wb w.heap.size m r15 rb) (fun a _ => m2K a) (isM2_intro (ms := []) _ 0 (by kernel_rfl) (by omega) List.nodup_nil (fun D h => by cases h) (Below.refl _ _)) ?_
        rintro a' W ⟨j, f, ms, hj2, rfl, hnd, hms, hBb⟩
        have HI := Lib.hid (And.intro hnd (And.intro hms hBb))
        clear hnd hms hBb
        unfold mnF
        by_cases hlt2 : j < 2
        · have hlt3 : (j : Int) < 2 := by omega
          refine wpIn_seq ?_
          refine wpIn_wide.2 ?_
          refine wp_hide fun QM HQM => ?_
          go_wp2_with fail
          rw [HQM.out]
          simp only [Exit.then]
          clear HQM
          refine wpIn_seq ?_
          refine wpIn_wide.2 ?_
          refine wp_hide fun QN HQN => ?_
          go_wp2_with fail
          rw [HQN.out]
          simp only [Exit.then]
          clear HQN
          have hB8W := below_tr HWB.out.2 HI.out.2.2
          have hst : ∃ pj Bj bj evsj clj, W.cell? ⟨rb, j, none⟩ = some (.pointer (some ⟨pj, 0, none⟩)) ∧ S8 Bj W pj bj 200 evsj clj ∧ clj.length ≤ 60 ∧ ∀ z ∈ clj, z.kind = 2 → (gname z).data.toList ∈ l := by
            have kW := HWB.out.1.below' HI.out.2.2
            have M1 := HK8.out.2.2.2.1.below hB8W
            have M2 := HK8.out.2.2.2.2.1.below hB8W
            have u1 : (keys cl).Nodup := by obtain ⟨_, _, _, _, R, _⟩ := id M1; exact R.uniq
            have u2 : (keys cl2).Nodup := by obtain ⟨_, _, _, _, R, _⟩ := id M2; exact R.uniq
            by_cases h0 : j = 0
            · subst h0
              exact ⟨p, _, _, _, cl, kW.cell 0, M1, HLT.out.1, fun z hz hk => (HKL.out.1 _).2 (two_le HKL.out.2.2.2.2.1 z (.inl hz) hk u1 u2)⟩
            · have h1 : j = 1 := by omega
              subst h1
              exact ⟨p2, _, _, _, cl2, kW.cell 1, M2, HLT.out.2.1, fun z hz hk => (HKL.out.1 _).2 (two_le HKL.out.2.2.2.2.1 z (.inr hz) hk u1 u2)⟩
          obtain ⟨pj, Bj, bj, evsj, clj, ej, Mj, hclj, hinj⟩ := hst
          have HJ := Lib.hid (And.intro Mj (And.intro hclj (And.intro hinj hB8W)))
          clear Mj hclj hinj hB8W
          refine wpIn_seq ?_
          refine wpIn_hide fun QF HQF => ?_
          refine wpIn_block ?_
          refine wpIn_seq ?_
          refine wpIn_wide.2 ?_
          refine wp_hide fun QO HQO => ?_
          go_wp2_with fail
          rw [HQO.out]
          simp only [Exit.then]
          clear HQO
          refine wpIn_seq ?_
          refine wpIn_wide.2 ?_
          refine wp_hide fun QJ HQJ => ?_
          go_wp2_with fail
          refine (list_any pj 2 W).mono ?_
          rintro e V2 ⟨rfl, rfl⟩
          go_wp2_with fail
          rw [HQJ.out]
          simp only [Exit.then]
          clear HQJ
          refine wpIn_block ?_
          obtain ⟨WL, hWL⟩ : ∃ WL, WL = (W.alloc (.cells #[.pointer (some ⟨pj, 0, none⟩)] 23)).alloc (.cells #[.int .i64 2] 3) := ⟨_, rfl⟩
          have l1' := (Bk.new W 23 #[.pointer (some ⟨pj, 0, none⟩)]).alloc (.cells #[.int .i64 2] 3)
          have l2' := Bk.new (W.alloc (.cells #[.pointer (some ⟨pj, 0, none⟩)] 23)) 3 #[.int .i64 2]
          rw [World.size_alloc] at l2'
          have lB : Below W.heap.size W WL := by
            rw [hWL]
            exact below_tr (below_al _ _) (below_al _ _)
          have lz : WL.heap.size = W.heap.size + 2 := by rw [hWL]; simp
          rw [← hWL] at l1' l2' ⊢
          clear hWL ej
          have HL1 := Lib.hid (And.intro l1' (And.intro l2' (And.intro lB lz)))
          clear l1' l2' lB lz
          obtain ⟨n9, D9, ev9, st9, R9, hlow9, _, hcl9, hgood9⟩ := id HJ.out.1
          have stL := st9.below HL1.out.2.2.1
          have hlz := HL1.out.2.2.2
          have hcl60 := HJ.out.2.1
          have hbW := HI.out.2.2.size
          refine wpIn_rangeFunc_know (n := 7) rfl (by omega) (gf := 30) (lb := #[.pointer (some ⟨W.heap.size, 0, none⟩), .pointer (some ⟨W.heap.size + 1, 0, none⟩)]) rfl trivial (enters_of Try.func30 rfl rfl)
            (list_knows (p := pj) (b := bj) (n := n9) (D := D9) (F := fun j => False) (cl := clj) 6 (by omega) 2 ?hcl WL ?hp ?hmp ?hR ?hbs ?hbk ?hF) KeepL.trans ?hKb (Below.refl _ _) (fun _ => rfl)
            (IsMR wb WL.heap.size ms) (fun _ _ _ => False) ?hI (fun _ _ _ _ _ hs _ _ => hs) ?h0 (IsMAx clj w.heap.size r15 WL.heap.size) ?hAx ?assign ?body ?done ?stop
          case hcl => omega
          case hp => exact stL.cells.2.1
          case hmp => exact stL.2.2.1
          case hR => exact {
            size := R9.size
            at1 := fun x hx => by
              obtain ⟨h1, y, h2, h3, h4⟩ := R9.at1 x hx
              exact ⟨h1, y, h2, safe_less (safe_old h3.ok HL1.out.2.2.1) (fun j hj => hj.elim), h4⟩
            at0 := R9.at0
            ok := R9.ok
            uniq := R9.uniq }
          case hbs => exact HL1.out.1.cell 0
          case hbk => exact HL1.out.2.1.cell 0
          case hF => exact ⟨fun h => h, fun h => h, fun h => h, fun h => h⟩
          case hKb => exact fun W l o o' hl ho hc hw => KeepL.put W l o o' hl ho hc hw
          case hI => exact IsMR.own (Nat.le_refl _) (by omega)
          case h0 =>
            exact ⟨fun D hD => by
              obtain ⟨h1, h2⟩ := HI.out.2.1 D hD
              have h3 := (Array.getElem?_eq_some_iff.1 h1).1
              exact ⟨(HL1.out.2.2.1.block D h3).trans h1, h2, by omega⟩, below_tr HI.out.2.2 HL1.out.2.2.1, Nat.le_refl _⟩
          case hAx =>
            rintro pre x a' s A A' row ⟨q', f', e, hq', hb', z, hz, k1, k2, k3, ho⟩ hg hr
            have hr2 : ∀ r, row = some r → ∃ o : Obj, A.heap[r]? = some o ∧ o.isCells = false := fun r e => (hr r e).2
            exact ⟨q', f', e, hq', bk_kept hb' hg hr2, z, hz, k1, k2, k3, ok_kept ho hg hr2⟩
          case assign =>
            intro l' pre x A K hA hKn hK
            have h47 : Is47 x.cells.toArray := cells_is x (by obtain ⟨z, hz, h1, h2, h3, h4⟩ := hKn; exact h4)
            have kz := Bk.new A 57 Z47
            refine wpIn_region_lit ?_
            refine wplI_run (fun _ => trivial) (fun ev => Oper.semAt_some _ _ _ (by intro c h; cases h)) rfl (run_alloc47 rfl _) ?_
            refine wplI_storeg (cs := x.cells.toArray) (fun _ => trivial) (fun ev => Oper.semAt_some _ _ _ (by intro c h; cases h)) kz (by rw [h47.1]; rfl) rfl rfl 57 (.tmp 23) (.tmp 139) rfl (by kernel_rfl) (by kernel_rfl) (info47 h47) h47.2 ?_
            have k2 := setCells_whole kz (show Z47.size = x.cells.toArray.size by rw [h47.1]; rfl)
            have b2 : Below A.heap.size A ((A.alloc (.cells Z47 57)).setCells A.heap.size 0 x.cells.toArray.toList) := below_setCells (g := A.heap.size) x.cells.toArray.toList 0 (below_al A _) (Nat.le_refl _)
            have hzs := hA.zs
            exact hK _ _ ⟨b2.size, fun j o _ hj _ => (b2.block j (Array.getElem?_eq_some_iff.1 hj).1).trans hj⟩ (KeepL.of_below b2 hzs) (hA.below b2) (isMAx_intro _ A.heap.size (by kernel_rfl) hzs k2 (hKn.below b2))
          case body =>
            rintro l' pre x _ A hl hlo hA ⟨q2, f', rfl, hq2, hbq, hKn⟩
            unfold mnG
            obtain ⟨z, hz, hzk, hzn, hnf, hok⟩ := id hKn
            obtain ⟨g, hg⟩ : ∃ g, g = gname x := ⟨_, rfl⟩
            have hgl : g.data.toList ∈ l := by
              rw [hg, gname_nf hnf]
              exact HJ.out.2.2.1 z hz hzk
            have hnmg : nmB g = true := by
              rw [hg, gname_nf hnf]
              exact node_group hzk (hgood9 z hz)
            have HX := Lib.hid (And.intro hA (And.intro hbq (And.intro hl (And.intro hlo (And.intro hg (And.intro hgl hnmg))))))
            clear hz hzk hzn hnf hok hg hgl hnmg hA hbq hl hlo hKn st9 R9 stL hlow9 hcl9 hgood9
            have hB8A : Below W8.heap.size W8 A := below_tr HWB.out.2 HX.out.1.low
            have e15 := (HK8.out.1.below' hB8A).cell 0
            refine wpIn_block ?_
            refine wpIn_seq ?_
            refine wpIn_hide fun QP HQP => ?_
            gi_wp2_with fail
            rw [HQP.out]
            simp only [Exit.then]
            clear HQP
            refine wpIn_seq ?_
            refine wpIn_hide fun QR HQR => ?_
            refine wpIn_seq ?_
            refine wpIn_hide fun QS HQS => ?_
            gi_wp2_with fail
            rw [HQS.out]
            simp only [Exit.then]
            clear HQS e15
            have HB8A := Lib.hid hB8A
            clear hB8A
            refine wpIn_block ?_
            refine wpIn_loop (IsM3 A w.heap.size r15 q2 Ag cg l g.data.toList) (fun a _ => m3K l.length a) (isM3_intro _ 0 false (by simp) (by kernel_rfl) (Nat.zero_le _) (Below.refl _ _)) ?_
            rintro a' W' ⟨j3, f3, hj3, rfl, hB3⟩
            have HB3 := Lib.hid hB3
            clear hB3
            have hl400 := HLL.out
            unfold mnH
            obtain ⟨met, hmet⟩ : ∃ met, met = decide (g.data.toList ∈ l.take j3) := ⟨_, rfl⟩
            rw [← hmet]
            have HMET := Lib.hid hmet
            clear hmet
            by_cases hlt3 : j3 < l.length
            · have hlt4 : (j3 : Int) < (l.length : Int) := by omega
              refine wpIn_seq ?_
              refine wpIn_hide fun QM HQM => ?_
              gi_wp2_with fail
              rw [HQM.out]
              simp only [Exit.then]
              clear HQM
              refine wpIn_seq ?_
              refine wpIn_hide fun QN HQN => ?_
              gi_wp2_with fail
              rw [HQN.out]
              simp only [Exit.then]
              clear HQN
              refine wpIn_seq ?_
              refine wpIn_hide fun QT HQT => ?_
              refine wpIn_block ?_
              obtain ⟨bg, og, rfl, hbg, hadd, hcell⟩ := Sl.row' (s := 3) (f := rdV f2 (a + b + 7)) (fun _ => rfl) (by omega) (HK8.out.2.1.below (below_tr HB8A.out HB3.out)) j3 hlt3
              obtain ⟨k3, hk3⟩ : ∃ k, k = l[j3] := ⟨_, rfl⟩
              have hs3 : l[j3]? = some k3 := by rw [hk3]; exact List.getElem?_eq_getElem hlt3
              have hkm : H2' k3 = true := (HKL.out.1 k3).1 (by rw [hk3]; exact List.getElem_mem hlt3)
              rw [← hk3, two_rd HKL.out.2.2.2.2.1 hkm] at hcell
              have hnm := HKL.out.2.2.2.2.2 k3 hkm
              obtain ⟨Y3, hY3⟩ : ∃ Y, Y = cntA cl2 k3 := ⟨_, rfl⟩
              obtain ⟨T3, hT3⟩ : ∃ T, T = cntA cl k3 * b + 7 * cntA cl2 k3 := ⟨_, rfl⟩
              rw [← hT3, ← hY3] at hcell
              have r0 : W'.cell? ⟨bg, og + j3 * 3, none⟩ = some (.string ⟨k3.toArray⟩) := hcell 0 _ rfl
              have r1 : W'.cell? ⟨bg, og + j3 * 3 + 1, none⟩ = some (.int .i64 Y3) := hcell 1 _ rfl
              have r2 : W'.cell? ⟨bg, og + j3 * 3 + 2, none⟩ = some (.int .u64 T3) := hcell 2 _ rfl
              have hne3 : (⟨k3.toArray⟩ : ByteArray) ≠ ByteArray.empty := fun e => by
                have := (nm_sz hnm).2
                rw [e] at this
                exact absurd this (by decide)
              have hmn := met_next (g := g.data.toList) hs3
              rw [← HMET.out] at hmn
              have HMN := Lib.hid (And.intro hmn hne3)
              clear hcell hkm hnm hY3 hT3 hk3 hs3 hmn hne3 hbg
              refine wpIn_seq ?_
              refine wpIn_hide fun QU HQU => ?_
              gi_wp2_with fail
              rw [HQU.out]
              simp only [Exit.then]
              clear HQU
              have kx := Bk.new W' 74 #[.string ⟨k3.toArray⟩, .int .i64 Y3, .int .u64 T3]
              have bx := below_al W' (.cells #[.string ⟨k3.toArray⟩, .int .i64 Y3, .int .u64 T3] 74)
              obtain ⟨W9, hW9⟩ : ∃ W9, W9 = W'.alloc (.cells #[.string ⟨k3.toArray⟩, .int .i64 Y3, .int .u64 T3] 74) := ⟨_, rfl⟩
              obtain ⟨q26, hq26⟩ : ∃ q, q = W'.heap.size := ⟨_, rfl⟩
              rw [← hW9] at kx bx ⊢
              rw [← hq26] at kx ⊢
              have x0 : W9.cell? ⟨q26, 0, none⟩ = some (.string ⟨k3.toArray⟩) := kx.cell 0
              have hBA9 := below_tr HB3.out bx
              obtain ⟨gr, hgr⟩ : ∃ gr, gr = x.n.group := ⟨_, rfl⟩
              have eg : W9.cell? ⟨q2, 20, none⟩ = some (.string gr) := by rw [hgr]; exact (HX.out.2.1.below' hBA9).cell 20
              have hgg : g = if gr = ⟨#[]⟩ then strNone else gr := by
                rw [HX.out.2.2.2.2.1, hgr]
                rfl
              have HG9 := Lib.hid (And.intro hgg hBA9)
              clear kx bx hW9 hq26 hBA9 hgr hgg r0 r1 r2
              cases hm : met with
              | true =>
                rw [hm] at HMN
                gi_wp2_with fail
                rw [HQT.out]
                simp only [Exit.then, Exit.inBlock]
                gi_wp2_with fail
                refine ⟨isM3_intro _ (j3 + 1) true (by rw [HMN.out.1]; rfl) (by kernel_rfl) (by omega) HG9.out.2, ?_⟩
                show l.length - ((j3 : Int) + 1).toNat < l.length - (j3 : Int).toNat
                omega
              | false =>
                rw [hm] at HMN
                by_cases h1 : gr = ⟨#[]⟩
                · rw [h1] at eg
                  have hgn : g = strNone := by rw [HG9.out.1, if_pos h1]
                  have hn0 := str_ne HMN.out.2
                  have hn0' : (k3.isEmpty) = false := by
                    cases k3 with
                    | nil => exact absurd rfl HMN.out.2
                    | cons a r => rfl
                  by_cases h2 : (⟨k3.toArray⟩ : ByteArray) = strNone
                  · have hn2 : (k3 == [110, 111, 110, 101]) = true := by
                      have h3 : (⟨k3.toArray⟩ : ByteArray).data.toList = strNone.data.toList := by rw [h2]
                      have h4 : k3 = [110, 111, 110, 101] := h3
                      rw [h4]
                      rfl
                    have hk9 : k3 = g.data.toList := by
                      rw [hgn, ← h2]
                    have HK9 := Lib.hid hk9
                    clear hk9 h1 h2 hgn
                    gi_wp2_with fail
                    rw [HQT.out]
                    simp only [Exit.then, Exit.inBlock]
                    gi_wp2_with fail
                    refine ⟨isM3_intro _ (j3 + 1) true (by rw [HMN.out.1]; simp [HK9.out]) (by kernel_rfl) (by omega) HG9.out.2, ?_⟩
                    show l.length - ((j3 : Int) + 1).toNat < l.length - (j3 : Int).toNat
                    omega
                  · have hk9 : k3 ≠ g.data.toList := fun e => h2 (by rw [e, hgn])
                    have hn2 : (k3 == [110, 111, 110, 101]) = false := by
                      rw [beq_eq_false_iff_ne]
                      intro e
                      exact hk9 (by rw [e, hgn]; rfl)
                    have HK9 := Lib.hid hk9
                    clear hk9 h1 h2 hgn
                    gi_wp2_with fail
                    rw [HQT.out]
                    simp only [Exit.then, Exit.inBlock]
                    gi_wp2_with fail
                    refine ⟨isM3_intro _ (j3 + 1) false (by rw [HMN.out.1]; simp [HK9.out]) (by kernel_rfl) (by omega) HG9.out.2, ?_⟩
                    show l.length - ((j3 : Int) + 1).toNat < l.length - (j3 : Int).toNat
                    omega
                · have hgn : g = gr := by rw [HG9.out.1, if_neg h1]
                  have hn1 := str_ne h1
                  by_cases h2 : (⟨k3.toArray⟩ : ByteArray) = gr
                  · have hk9 : k3 = g.data.toList := by
                      rw [hgn, ← h2]
                    have HK9 := Lib.hid hk9
                    rw [← h2] at eg
                    clear hk9 h1 h2 hgn hn1
                    gi_wp2_with fail
                    rw [HQT.out]
                    simp only [Exit.then, Exit.inBlock]
                    gi_wp2_with fail
                    refine ⟨isM3_intro _ (j3 + 1) true (by rw [HMN.out.1]; simp [HK9.out]) (by kernel_rfl) (by omega) HG9.out.2, ?_⟩
                    show l.length - ((j3 : Int) + 1).toNat < l.length - (j3 : Int).toNat
                    omega
                  · have hk9 : k3 ≠ g.data.toList := fun e => h2 (by rw [e, hgn])
                    have hn2 : (k3 == gr.toList) = false := by
                      rw [ByteArray.toList_eq, beq_eq_false_iff_ne]
                      intro e
                      exact hk9 (by rw [e, hgn])
                    have HK9 := Lib.hid hk9
                    clear hk9 h1 h2 hgn
                    gi_wp2_with fail
                    rw [HQT.out]
                    simp only [Exit.then, Exit.inBlock]
                    gi_wp2_with fail
                    refine ⟨isM3_intro _ (j3 + 1) false (by rw [HMN.out.1]; simp [HK9.out]) (by kernel_rfl) (by omega) HG9.out.2, ?_⟩
                    show l.length - ((j3 : Int) + 1).toNat < l.length - (j3 : Int).toNat
                    omega
            · have hj3e : j3 = l.length := by omega
              subst hj3e
              have hm9 : met = true := by
                rw [HMET.out, List.take_length]
                exact decide_eq_true HX.out.2.2.2.2.2.1
              subst hm9
              refine wpIn_seq ?_
              refine wpIn_hide fun QM HQM => ?_
              gi_wp2_with fail
              rw [HQM.out]
              simp only [Exit.then]
              clear HQM
              refine wpIn_seq ?_
              refine wpIn_hide fun QN HQN => ?_
              gi_wp2_with fail
              rw [HQN.out]
              show QR .normal _ W'
              rw [HQR.out]
              simp only [Exit.then]
              clear HQN HQR
              gi_wp2_with fail
              have hb3 := HB3.out
              exact ⟨⟨hb3.size, fun j o _ hj _ => (hb3.block j (Array.getElem?_eq_some_iff.1 hj).1).trans hj⟩, KeepL.of_below hb3 HX.out.1.zs, HX.out.1.below hb3⟩
          case done =>
            intro D xs A hD hxs hA hmD
            show QF .normal _ A
            rw [HQF.out]
            simp only [Exit.then]
            refine wpIn_wide.2 ?_
            refine wp_hide fun QK HQK => ?_
            go_wp2_with fail
            rw [HQK.out]
            simp only [Exit.then]
            refine ⟨isM2_intro (ms := D :: ms) _ (j + 1) (by kernel_rfl) (by omega) (List.nodup_cons.2 ⟨fun h => by
                have := (hA.mark D h).2.2
                omega, HI.out.1⟩) (fun E hE => by
                rcases List.mem_cons.1 hE with rfl | hE
                · exact ⟨hmD, by omega⟩
                · exact ⟨(hA.mark E hE).1, (hA.mark E hE).2.1⟩) hA.low, ?_⟩
            show 2 - ((j : Int) + 1).toNat < 2 - (j : Int).toNat
            omega
          case stop =>
            rintro D c pre A _ h _
            exact h.elim
        · have hj2e : j = 2 := by omega
          subst hj2e
          have hlt3 : ¬ ((2 : Nat) : Int) < 2 := by omega
          refine wpIn_seq ?_
          refine wpIn_wide.2 ?_
          refine wp_hide fun QM HQM => ?_
          go_wp2_with fail
          rw [HQM.out]
          simp only [Exit.then]
          refine wpIn_seq ?_
          refine wpIn_wide.2 ?_
          refine wp_hide fun QN HQN => ?_
          go_wp2_with fail
          rw [HQN.out]
          show QL .normal _ W
          rw [HQL.out]
          simp only [Exit.then]
          clear HQM HQN HQL
          have B3W : Below W3.heap.size W3 W := HK8.out.2.2.1.trans ((below_tr HWB.out.2 HI.out.2.2).mono HK8.out.2.2.1.size)
          have kW := HK8.out.2.2.2.2.2.1.below' B3W
          have BwW := below_tr (below_tr H2.out.1 H3.out) B3W
          have HE := Lib.hid (And.intro kW BwW)
          have hbw : w.heap.size < wb.heap.size := by
            have h1 := HWB.out.2.size
            have h2 := HK8.out.2.2.1.size
            have h3 := HK8.out.2.2.2.2.2.2.1
            omega
          clear B3W kW BwW
          refine wpIn_seq ?_
          refine wpIn_wide.2 ?_
          refine wp_hide fun QO HQO => ?_
          go_wp2_with fail
          refine (nodes_none _ _ W).mono ?_
          rintro e W9 ⟨rfl, b9⟩
          have k9 := HE.out.1.below' b9
          have e9 := k9.cell 0
          have f9 := k9.frozen 0
          have HE9 := Lib.hid (And.intro k9 (And.intro (below_tr HE.out.2 b9) (fun D hD => by
            obtain ⟨h1, h2⟩ := HI.out.2.1 D hD
            exact ⟨(b9.block D (Array.getElem?_eq_some_iff.1 h1).1).trans h1, h2⟩ : ∀ D ∈ ms, W9.heap[D]? = some (.deferred (some [])) ∧ wb.heap.size ≤ D)))
          clear k9 b9
          go_wp2_with fail
          rw [HQO.out]
          simp only [Exit.then]
          clear HQO e9 f9
          gi_wp2_with fail
          refine FIN.out ms _ _ HI.out.1 (fun D hD => ?_) rfl (HE9.out.1.set 0 (.bool true)) (HE9.out.2.1.setCell (p := ⟨w.heap.size, 0, none⟩) (Nat.le_refl _) _)
          obtain ⟨h1, h2⟩ := HE9.out.2.2 D hD
          exact ⟨(Below.heap_setCell W9 ⟨w.heap.size, 0, none⟩ _ D (by show D ≠ w.heap.size; omega)).trans h1, by omega⟩
end Go.Proofs.Ytoobjfpkdlffpaa
end
section
namespace Go.Proofs.Ytoobjfpkdlffpaa
open Go.RowKit Go.Proofs.Mem
set_option linter.unusedVariables false
theorem meterNodes_walk (A1 : Option Addr) (n1 c1 : Nat) (A2 : Option Addr) (n2 c2 : Nat) (a b : Int) (w : World) (h1 : Mem.Ok Try.prog w 9 22 (Value.slice A1 n1 c1).cells.toList) (h2 : Mem.Ok Try.prog w 9 22 (Value.slice A2 n2 c2).cells.toList) (ha : Lit.wf (.int .u16 a) = true) (hb : Lit.wf (.int .u16 b) = true) :
    Calls Try.prog 4 #[.slice A1 n1 c1, .slice A2 n2 c2, .int .u16 a, .int .u16 b] w fun e w' => e = .returned (.bool true) ∧ Below w.heap.size w w' := by
  obtain ⟨l1, e1, m1, s1, o1⟩ := obs_of (m := 2) h1
  obtain ⟨l2, e2, m2, s2, o2⟩ := obs_of (m := 2) h2
  subst e1 e2
  have k1 : IntKind.u16.min = 0 := rfl
  have k2 : IntKind.u16.max = 65535 := rfl
  unfold Lit.wf at ha hb
  rw [Bool.and_eq_true, decide_eq_true_eq, decide_eq_true_eq] at ha hb
  obtain ⟨x, rfl⟩ : ∃ x : Nat, a = (x : Int) := ⟨a.toNat, by omega⟩
  obtain ⟨y, rfl⟩ : ∃ y : Nat, b = (y : Int) := ⟨b.toNat, by omega⟩
  exact meterNodes_any w A1 c1 l1 s1 o1 m1 A2 c2 l2 s2 o2 m2 x y (by omega) (by omega)
end Go.Proofs.Ytoobjfpkdlffpaa
end
