/-
  The contract of package trend's check, at samples that may be. Conditions: those named in each.
-/
import Derived.Test.YtalmhnimmhgloaaTr2
namespace Go.Proofs.Ytalmhnimmhgloaa
open Go.RowKit Go.Proofs.Mem LineLaw
set_option linter.unusedVariables false
set_option linter.unusedSimpArgs false
set_option maxRecDepth 100000 in
theorem far_any (x : Smp) (f : Int) (B b o n cp : Nat) (w : World) (hn : 0 < n) (hB : w.cell? ⟨B, 0, none⟩ = some (.slice (some ⟨b, o, none⟩) n cp)) (hb : b < w.heap.size) (hBl : B < w.heap.size) (h0 : w.cell? ⟨b, o, none⟩ = some (.int .i64 f)) (f0 : 0 ≤ f) (f1 : f ≤ 4611686018427387904)
    (x0 : 0 ≤ x.at') (x1 : x.at' ≤ 4611686018427387904) (xn : x.at' - f ≤ 65536) (v1 : x.v ≤ 4294967296) :
    Calls Try.prog 70 #[.agg #[.int .i64 x.at', .int .i64 x.v], .pointer (some ⟨B, 0, none⟩)] w fun e w' => e = .returned (.bool false) ∧ Below w.heap.size w w' := by
  have q1 : IntKind.i64.wrap (x.at' - f) = x.at' - f := IntWalk.i64_in _ (by omega)
  have d1 : decide (65536 < x.at' - f) = false := decide_eq_false (by omega)
  have d2 : decide (4294967296 < x.v) = false := decide_eq_false (by omega)
  have hn' : (0 : Int) < n := by omega
  go_enter Try.func70, Try.ntmps70
  go_wp2_with fail
  go_quiet (fail)
  go_wp2_with fail
  go_ret
  exact ⟨rfl, below_drewN (below_al w _) _⟩
set_option maxRecDepth 100000 in
theorem indexs_any (l : List Smp) (A : Option Addr) (cp B : Nat) (w : World) (h : OkL l) (hv : Sl w 2 (.slice A l.length cp) l.length (l.flatMap Smp.cells)) (hB : w.cell? ⟨B, 0, none⟩ = some (.slice A l.length cp)) (hBl : B < w.heap.size) :
    Calls Try.prog 80 #[.slice A l.length cp, .func (.func 70) #[] #[.pointer (some ⟨B, 0, none⟩)]] w fun e w' => e = .returned (.int .i64 (-1)) ∧ Below w.heap.size w w' := by
  have hf := h.first0
  have h2 := h.two
  have hm := h.most
  obtain ⟨b, o, rfl, hbl, hadd, hcell⟩ := Sl.row' (f := Smp.cells) (fun _ => rfl) (by omega) hv 0 (by omega)
  have a0 : w.cell? ⟨b, o + 0 * 2, none⟩ = _ := hcell 0 _ rfl
  rw [Nat.zero_mul, Nat.add_zero, ← first_eq l (by omega)] at a0
  have CF : Hid (∀ (w1 : World) (x : Smp), x ∈ l → Below w.heap.size w w1 → Calls Try.prog 70 #[.agg #[.int .i64 x.at', .int .i64 x.v], .pointer (some ⟨B, 0, none⟩)] w1 fun e w' => e = .returned (.bool false) ∧ Below w1.heap.size w1 w') := Lib.hid fun w1 x hx hb => far_any x (first l) B b o l.length cp w1 (by omega) ((hb.cell (p := ⟨B, 0, none⟩) hBl).trans hB) (by have := hb.size; omega) (by have := hb.size; omega) ((hb.cell (p := ⟨b, o, none⟩) hbl).trans a0) hf.1 hf.2 (h.at0 x hx) (h.at1 x hx) (h.near x hx) (h.v1 x hx)
  clear hcell a0 hB hadd h
  go_enter Try.func80, Try.ntmps80
  go_wp2_with fail
  go_loopw [5, 8] (fun _ i wr => ∃ k : Nat, k ≤ l.length ∧ i = .int .i64 k ∧ Below w.heap.size w wr) (fun _ i wr => l.length - (intOf i).toNat)
  case atStart => exact ⟨0, Nat.zero_le _, rfl, Below.refl _ _⟩
  case round =>
    obtain ⟨k, hk, rfl, hBw⟩ := hrel
    by_cases hlt : k < l.length
    · obtain ⟨b2, o2, eA, _, hadd2, hcell2⟩ := Sl.row' (f := Smp.cells) (fun _ => rfl) (by omega) (hv.below hBw) k hlt
      injection eA with eA
      injection eA with e1 e2 e3
      subst e1; subst e2
      have d0 : wr.cell? ⟨b, o + k * 2, none⟩ = _ := hcell2 0 _ rfl
      have d1 := hcell2 1 _ rfl
      have C1 := Lib.hid (CF.out wr l[k] (List.getElem_mem hlt) hBw)
      clear hcell2
      generalize l[k] = x at d0 d1 C1
      go_wp2_with fail
      refine C1.out.mono ?_
      rintro e w1 ⟨rfl, hb1⟩
      go_wp2_with fail
      exact ⟨⟨k + 1, by omega, by go_num, hBw.trans (hb1.mono hBw.size)⟩, by simp [intOf]; omega⟩
    · go_wp2_with fail
      go_ret
      exact ⟨rfl, hBw⟩
theorem containss_any (l : List Smp) (A : Option Addr) (cp B : Nat) (w : World) (h : OkL l) (hv : Sl w 2 (.slice A l.length cp) l.length (l.flatMap Smp.cells)) (hB : w.cell? ⟨B, 0, none⟩ = some (.slice A l.length cp)) (hBl : B < w.heap.size) :
    Calls Try.prog 69 #[.slice A l.length cp, .func (.func 70) #[] #[.pointer (some ⟨B, 0, none⟩)]] w fun e w' => e = .returned (.bool false) ∧ Below w.heap.size w w' := by
  have C := Lib.hid (indexs_any l A cp B w h hv hB hBl)
  clear h hv hB
  go_enter Try.func69, Try.ntmps69
  go_wp2_with fail
  refine C.out.mono ?_
  rintro e w1 ⟨rfl, hb1⟩
  go_wp2_with fail
  go_ret
  exact ⟨rfl, hb1⟩
set_option maxRecDepth 100000 in
theorem check_any (l : List Smp) (v : Value) (w : World) (h : OkL l) (hv : Sl w 2 v l.length (l.flatMap Smp.cells)) :
    Calls Try.prog 46 #[v] w fun e w' => e = .returned (.int .i64 0) ∧ Below w.heap.size w w' := by
  have h2 := h.two
  have hm := h.most
  obtain ⟨A, cp, rfl, hcp, _⟩ := id hv
  have i2 : (2 : Int) ≤ l.length := by omega
  have i3 : (l.length : Int) ≤ 32 := by omega
  have HV := Lib.hid hv
  have H := Lib.hid h
  clear hv h
  go_enter Try.func46, Try.ntmps46
  go_wp2_with fail
  have kb := Bk.new w 62 #[.slice A l.length cp]
  have hv1 := HV.out.alloc (.cells #[.slice A l.length cp] 62)
  have hB1 := below_al w (.cells #[.slice A l.length cp] 62)
  have hlt0 := kb.lt
  generalize w.alloc (.cells #[.slice A l.length cp] 62) = w1 at kb hv1 hB1 hlt0 ⊢
  go_loopw [3, 15] (fun _ i wr => ∃ k : Nat, k ≤ l.length ∧ i = .int .i64 k ∧ Below w1.heap.size w1 wr) (fun _ i wr => l.length - (intOf i).toNat)
  case atStart => exact ⟨0, Nat.zero_le _, rfl, Below.refl _ _⟩
  case round =>
    obtain ⟨k, hk, rfl, hBw⟩ := hrel
    have kr := kb.below' hBw
    have c0 := kr.cell 0
    by_cases hlt : k < l.length
    · go_wp2_with fail
      refine (right_any l _ wr H.out (hv1.below hBw) k hlt).mono ?_
      rintro e w2 ⟨rfl, hb2⟩
      go_wp2_with fail
      exact ⟨⟨k + 1, by omega, by go_num, hBw.trans (hb2.mono hBw.size)⟩, by simp [intOf]; omega⟩
    · go_wp2_with fail
      refine (containss_any l A cp _ wr H.out (hv1.below hBw) c0 kr.lt).mono ?_
      rintro e w2 ⟨rfl, hb2⟩
      go_wp2_with fail
      go_ret
      exact ⟨rfl, hB1.trans ((hBw.trans (hb2.mono hBw.size)).mono hB1.size)⟩
end Go.Proofs.Ytalmhnimmhgloaa
