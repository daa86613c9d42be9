/-
  The walk of the statement PolicyKeeps: it returns true, for every input.
-/
import Derived.Test.YtalmhnimmhgloaaKeep4
import Derived.Deep.QuietTactic
import Derived.BigQuiet
namespace Go.Proofs.Ytalmhnimmhgloaa
open Go.RowKit Go.Proofs.Mem
set_option linter.unusedVariables false
set_option linter.unusedSimpArgs false
def Done.agg (x : Done) : Value := .agg #[.int .i64 x.at', .int .i64 x.from', .int .i64 x.to']
theorem neq_scaled (a b c : Int) (w : World) : (binOp .neq 44 (.agg #[.int .i64 a, .int .i64 b, .int .i64 c]) (.agg #[.int .i64 a, .int .i64 b, .int .i64 c])).run Try.prog w = .ok (.bool false) w := by
  have u3 := Try.underlying3
  have a3 := Try.isAgg3
  have z3 := Try.sizeOf3
  have u2 := Try.underlying2
  have a2 := Try.isAgg2
  have z2 := Try.sizeOf2
  have hS : Try.prog.underlying 44 = some (.struct (Try.prog.fieldsOf 44)) := by kernel_rfl
  have hp : Try.prog.stoodInHeld 44 = false := by kernel_rfl
  rw [run_neq_struct, show (10000 : Nat) = 9999 + 1 from rfl, run_equalIn_agg w 9999 44 _ _ hS hp]
  simp only [Program.fieldsOf, Try.underlying44]
  go_simp
/-- So long ago, in the law's words. -/
theorem old_law (now : Int) (x : Done) (hn : 0 ≤ now ∧ now ≤ 4611686018427387904) (hx : 0 ≤ x.at' ∧ x.at' ≤ 4611686018427387904) : (oldB now x = false ↔ now - x.at' < 1800) := by
  unfold oldB
  rw [decide_eq_false_iff_not]
  omega
/-- The cells that the law writes. -/
def GotOk (w : World) (B : Nat) (A : Option Addr) (n : Nat) : Prop := ∀ k, k < n → ∃ g u, A = some ⟨g, 0, none⟩ ∧ B ≤ g ∧ w.cell? ⟨g, k * 3 + 2, none⟩ = some u ∧ w.frozen? ⟨g, k * 3 + 2, none⟩ = false
theorem GotOk.of {w : World} {base n c : Nat} {A : Option Addr} {e : TypeId} {xs : List Done} (h : w.ownsRow base e 3 (.slice A n c) n (xs.flatMap Done.cells)) (hn : n = xs.length) : GotOk w base A n := by
  intro k hk
  obtain ⟨g, c', rest, e1, hg, hR, hc⟩ := of_own_some h (by omega)
  injection e1 with e1 e2 e3
  refine ⟨g, .int .i64 (xs[k]'(by omega)).to', e1, hg, ?_, hR.frozen _⟩
  exact hR.cell (s := 3) (fun _ => rfl) k 2 (by omega) (by omega)
theorem GotOk.set {w : World} {B n : Nat} {A : Option Addr} (h : GotOk w B A n) (p : Addr) (v : Value) : GotOk (w.setCell p v) B A n := by
  intro k hk
  obtain ⟨g, u, h1, h2, h3, h4⟩ := h k hk
  obtain ⟨u', hu'⟩ := cell?_setCell_some (p := p) (x := v) h3
  exact ⟨g, u', h1, h2, hu', by rw [World.frozen?_setCell]; exact h4⟩
theorem wpl_pushS2 {w : World} {ops : Array Oper} {rest : List Oper} {o : Oper} {a : Act} {Q : Exit → Act → World → Prop} (hgd : o.guard = none) (s x : Operand)
    (ho : o.op = .call { callee := .builtin .append, args := #[s, x], argTypes := #[41, 41] }) {base B : Nat} {W : World} {v : Value} {l : List Done} (H : Nat) (hH : w.heap.size = H) (hown : w.ownsRow base 44 3 v l.length (l.flatMap Done.cells)) (d : Done)
    (hbw : Below B W w) (hB : B ≤ base) (hb : base ≤ w.heap.size) (hl : l.length ≤ 4096) (hs : a.eval s = v) (hx : a.eval x = .slice (some ⟨H, 0, none⟩) 1 1)
    (h : ∀ v' w', w'.ownsRow base 44 3 v' (l ++ [d]).length ((l ++ [d]).flatMap Done.cells) → Below B W w' → base ≤ w'.heap.size → wpList Try.prog ops Q rest (a.put o.dst v') w') :
    wpList Try.prog ops Q (o :: rest) a (w.alloc (.cells #[.int .i64 d.at', .int .i64 d.from', .int .i64 d.to'] 44)) := by
  subst hH
  exact wpl_pushS hgd s x ho hown d hbw hB hb hl hs hx h
theorem lives_hid : Hid (∀ w, Calls Try.prog 15 #[] w fun e w' => e = .returned (.bool true) ∧ Below w.heap.size w w') := Lib.hid lives22_any
theorem keeps_none (xs : List Done) (v : Value) (now : Int) (w : World) (hl : xs.length ≤ 9223372036854775807) (h : Sl w 3 v xs.length (xs.flatMap Done.cells)) (hbad : rightP xs now = false) :
    Calls Try.prog 6 #[v, .int .i64 now] w fun e w' => e = .returned (.bool true) ∧ Below w.heap.size w w' := by
  have CR := Lib.hid (fun (w1 : World) (hb : Below w.heap.size w w1) => right_past xs v now w1 hl (h.below hb))
  rw [hbad] at CR
  clear hbad h hl
  go_enter Try.func6, Try.ntmps6
  go_wp2_with fail
  refine (lives22_any _).mono ?_
  rintro e w1 ⟨rfl, hb1⟩
  go_wp2_with fail
  refine (CR.out _ hb1).mono ?_
  rintro e w2 ⟨rfl, hb2⟩
  go_wp2_with fail
  refine (lives22_any _).mono ?_
  rintro e w3 ⟨rfl, hb3⟩
  go_wp2_with fail
  go_ret
  have h12 := hb1.trans (hb2.mono hb1.size)
  exact ⟨rfl, h12.trans (hb3.mono h12.size)⟩
set_option maxHeartbeats 2000000 in
set_option maxRecDepth 100000 in
theorem keeps_some (xs : List Done) (v : Value) (now : Int) (w : World) (h : Sl w 3 v xs.length (xs.flatMap Done.cells)) (hr : rightP xs now = true) :
    Calls Try.prog 6 #[v, .int .i64 now] w fun e w' => e = .returned (.bool true) ∧ Below w.heap.size w w' := by
  obtain ⟨hall, hnow, hl⟩ := rightP_t hr
  have hn := okC_t hnow
  have CR := Lib.hid (fun (w1 : World) (hb : Below w.heap.size w w1) => right_past xs v now w1 (by omega) (h.below hb))
  rw [hr] at CR
  have CK := Lib.hid (fun (v : Value) (w1 : World) (h : Sl w1 3 v xs.length (xs.flatMap Done.cells)) => keep_any xs v now w1 (by omega) h hn)
  have HA := Lib.hid hall
  have HN := Lib.hid hn
  have hll : ((xs.length : Nat) : Int) ≤ 60 := by omega
  clear hr hall hnow hn
  have hneq := fun (w : World) (a b c : Int) => neq_scaled a b c w
  have hgd : Try.prog.eqGuardType Try.prog.depth 44 = false := by kernel_rfl
  obtain ⟨A, c, rfl, hc, hAn, _⟩ := id h
  go_enter Try.func6, Try.ntmps6
  go_wp2_with fail
  refine (lives22_any _).mono ?_
  rintro e w1 ⟨rfl, hb1⟩
  go_wp2_with fail
  refine (CR.out _ hb1).mono ?_
  rintro e w2 ⟨rfl, hb2⟩
  have hB2 : Below w.heap.size w w2 := hb1.trans (hb2.mono hb1.size)
  have hk : Bk (w2.alloc (.cells #[] 44)) w2.heap.size 44 #[] := Bk.new w2 _ _
  have hown : (w2.alloc (.cells #[] 44)).ownsRow w2.heap.size 44 3 (.slice (some ⟨w2.heap.size, 0, none⟩) 0 0) 0 [] := by
    have := hk.own (base := w2.heap.size) (size := 3) (n := 0) (c := 0) (Nat.le_refl _) (Nat.le_refl _) (by simp [maxLen]) rfl
    simpa using this
  go_wp2_with (at_builtin; refine wpl_append rfl _ _ _ rfl w2.heap.size 44 _ 3 24 Try.underlying41 info_scaled rfl (by omega) (by omega) _ _ _ rfl hown _ xs.length (xs.flatMap Done.cells) rfl ((h.below hB2).alloc _) (cells_one xs) (by omega) (by simp) ?_; intro ov w3 hown3 hgrow3 _)
  have hB3 : Below w2.heap.size w2 w3 := below_grown ((Below.refl _ _).alloc (Nat.le_refl _) _) hown hgrow3 (by simp) (Nat.le_refl _)
  have hSo : Sl w3 3 ov xs.length (xs.flatMap Done.cells) := by have := Sl.of_own hown3; simpa using this
  have hB3w : Below w.heap.size w w3 := hB2.trans (hB3.mono hB2.size)
  have CK2 := Lib.hid (CK.out ov w3 hSo)
  obtain ⟨oA, oc, rfl, hoc, hon, _⟩ := id hSo
  refine CK2.out.mono ?_
  rintro e w4 ⟨gv, rfl, hown4, hb4⟩
  have hB4 : Below w.heap.size w w4 := hB2.trans ((hB3.mono hB2.size).trans (hb4.mono (Nat.le_trans hB2.size hB3.size)))
  have hs34 := hb4.size
  clear CR CK CK2 hb1 hb2 hk hown hown3 hgrow3 hB3
  go_wp2_with fail
  go_loopw [30, 7, 9] (fun i s p wr => ∃ (k : Nat) (wv : Value), k ≤ xs.length ∧ i = .int .i64 k ∧ s = wv ∧ wr.ownsRow w4.heap.size 44 3 wv (kept now (xs.take k)).length ((kept now (xs.take k)).flatMap Done.cells) ∧ Below w4.heap.size w4 wr) (fun i s p wr => xs.length - (intOf i).toNat)
  case atStart => exact ⟨0, _, Nat.zero_le _, rfl, rfl, World.ownsRow_nil .., Below.refl _ _⟩
  case round =>
    obtain ⟨k, wv, hk, rfl, rfl, hown, hB⟩ := hrel
    have hBw : Below w.heap.size w wr := hB4.trans (hB.mono hB4.size)
    by_cases hlt : k < xs.length
    · obtain ⟨b, o, rfl, hbl, hadd, hcell⟩ := Sl.row' (f := Done.cells) (fun _ => rfl) (by omega) (h.below hBw) k hlt
      have a0 : wr.cell? ⟨b, o + k * 3, none⟩ = _ := hcell 0 _ rfl
      have a1 := hcell 1 _ rfl
      have a2 := hcell 2 _ rfl
      have hx := okC_t (HA.out _ (List.getElem_mem hlt))
      have hold := old_law now xs[k] HN.out hx
      have hst : kept now (xs.take (k + 1)) = kept now (xs.take k) ++ (if oldB now xs[k] then [] else [xs[k]]) := by
        unfold kept
        rw [List.take_succ_eq_append_getElem hlt, List.filter_append]
        cases e : oldB now xs[k] <;> simp [e]
      have HST := Lib.hid hst
      have hkl2 : (kept now (xs.take k)).length ≤ 4096 := by
        have := kept_len now (xs.take k)
        have := List.length_take_le k xs
        omega
      clear hcell hst
      generalize kept now (xs.take k) = l at hown hkl2 HST
      generalize oldB now xs[k] = q at hold HST
      generalize xs[k] = x at a0 a1 a2 hx hold HST
      obtain ⟨x0, x1⟩ := hx
      obtain ⟨n0, n1⟩ := HN.out
      have q0 : -4611686018427387904 ≤ now - x.at' := by omega
      have q1 : now - x.at' ≤ 4611686018427387904 := by omega
      cases q
      · have ho : now - x.at' < 1800 := hold.1 rfl
        clear hold
        go_wp2_with (at_builtin; refine wpl_pushS2 rfl _ _ rfl (wr.heap.size + 1) (by simp) (hown.alloc _) x (hB.alloc hB.size _) (Nat.le_refl _) (by simp; have := hB.size; omega) hkl2 rfl rfl ?_; intro v' w6 hown6 hB6 hle6)
        exact ⟨⟨k + 1, v', by omega, by go_num, rfl, by rw [HST.out]; exact hown6, hB6⟩, by simp [intOf]; omega⟩
      · have ho : ¬ now - x.at' < 1800 := fun e => by have := hold.2 e; cases this
        clear hold
        go_wp2_with fail
        exact ⟨⟨k + 1, _, by omega, by go_num, rfl, by rw [HST.out]; simpa using hown.alloc _, hB.alloc hB.size _⟩, by simp [intOf]; omega⟩
    · rw [List.take_of_length_le (show xs.length ≤ k by omega)] at hown
      have hkl := kept_len now xs
      have hgo := own_below hown4 hB
      have hB35 : Below w3.heap.size w3 wr := hb4.trans (hB.mono hs34)
      have hs35 : w3.heap.size ≤ wr.heap.size := hB35.size
      obtain ⟨K, hK⟩ : ∃ K, K = kept now xs := ⟨_, rfl⟩
      rw [← hK] at hown hkl hgo
      clear hK HA HN hown4
      have hSw := Sl.of_own hown
      obtain ⟨L, hL⟩ : ∃ L, L = lastN K := ⟨_, rfl⟩
      rw [← hL] at hgo
      obtain ⟨m, hm⟩ : ∃ m, m = K.length := ⟨_, rfl⟩
      have hsG := Sl.of_own hgo
      obtain ⟨gA, gc, rfl, hgc, hgn, _⟩ := id hsG
      have hgok := Lib.hid (GotOk.of hgo rfl)
      obtain ⟨wA, wc, rfl, hwc, hwn, _⟩ := id hSw
      have hm60 : ((m : Nat) : Int) ≤ 60 := by omega
      by_cases h32 : m ≤ 32
      · have e : L = K := by rw [hL]; unfold lastN; rw [← hm, show m - 32 = 0 by omega]; rfl
        subst e
        rw [← hm] at hSw hsG hgok hgc hwc ⊢
        have hmI : ((m : Nat) : Int) ≤ 32 := by omega
        have HL := Lib.hid hm
        clear hgo hown hL hm
        obtain ⟨n, hmn⟩ : ∃ n, n = m := ⟨_, rfl⟩
        subst hmn
        have hSv := hSw
        have hn60 : n ≤ 60 := by omega
        clear hSw
        go_wp2_with fail
        generalize wA = vA at hSv ⊢
        generalize wc = vc at hSv ⊢
        obtain ⟨w5, hw5⟩ : ∃ w5, w5 = wr := ⟨_, rfl⟩
        subst hw5
        go_loopw [59, 10] (fun i s wq => ∃ k : Nat, k ≤ n ∧ i = .int .i64 k ∧ Below w5.heap.size w5 wq) (fun i s wq => n - (intOf i).toNat)
        case atStart => exact ⟨0, Nat.zero_le _, rfl, Below.refl _ _⟩
        case round =>
          obtain ⟨k7, hk7, rfl, hBq⟩ := hrel
          have hln := HL.out
          by_cases hlt7 : k7 < n
          · obtain ⟨bg, og, rfl, _, hadd1, hcell1⟩ := Sl.row' (s := 3) (f := Done.cells) (xs := L) (k := k7) (fun _ => rfl) (by omega) (by rw [← hln]; exact hsG.below hBq) (by omega)
            obtain ⟨bv, ov, rfl, _, hadd2, hcell2⟩ := Sl.row' (s := 3) (f := Done.cells) (xs := L) (k := k7) (fun _ => rfl) (by omega) (by rw [← hln]; exact hSv.below hBq) (by omega)
            have a0 : wr.cell? ⟨bg, og + k7 * 3, none⟩ = _ := hcell1 0 _ rfl
            have a1 := hcell1 1 _ rfl
            have a2 := hcell1 2 _ rfl
            have b0 : wr.cell? ⟨bv, ov + k7 * 3, none⟩ = _ := hcell2 0 _ rfl
            have b1 := hcell2 1 _ rfl
            have b2 := hcell2 2 _ rfl
            clear hcell1 hcell2
            generalize L[k7] = x at a0 a1 a2 b0 b1 b2
            have i0 : (0 : Int) ≤ (k7 : Int) := by omega
            have i1 : (k7 : Int) < (n : Int) := by omega
            clear hln
            go_wp2_with fail
            go_quiet (fail)
            go_wp2_with fail
            exact ⟨⟨k7 + 1, by omega, by go_num, below_drewN hBq _⟩, by simp [intOf]; omega⟩
          · clear hln
            go_wp2_with fail
            obtain ⟨w6, hw6⟩ : ∃ w6, w6 = wr := ⟨_, rfl⟩
            subst hw6
            have hB36 : Below w3.heap.size w3 w6 := hB35.trans (hBq.mono hs35)
            have hg6 : Hid (GotOk w6 w3.heap.size gA n) := Lib.hid (fun k hk => by
              obtain ⟨g, u, h1, h2, h3, h4⟩ := hgok.out k hk
              have hlt : g < w5.heap.size := by simpa using World.block_lt_of_cell? _ _ h3
              exact ⟨g, u, h1, h2, (hBq.cell (p := ⟨g, _, none⟩) hlt).trans h3, (hBq.frozen (p := ⟨g, _, none⟩) hlt).trans h4⟩)
            clear hsG hSv hgok HL
            go_loopw [74, 11] (fun i s wq => ∃ k : Nat, k ≤ n ∧ i = .int .i64 k ∧ Below w3.heap.size w3 wq ∧ Hid (GotOk wq w3.heap.size gA n)) (fun i s wq => n - (intOf i).toNat)
            case atStart => exact ⟨0, Nat.zero_le _, rfl, hB36, hg6⟩
            case round =>
              obtain ⟨k8, hk8, rfl, hBp, hgp⟩ := hrel
              by_cases hlt8 : k8 < n
              · obtain ⟨g, u, h1, h2, h3, h4⟩ := hgp.out k8 hlt8
                subst h1
                have i0 : (0 : Int) ≤ (k8 : Int) := by omega
                have i1 : (k8 : Int) < (n : Int) := by omega
                go_wp2_with fail
                exact ⟨⟨k8 + 1, by omega, by go_num, hBp.setCell (p := ⟨g, _, none⟩) h2 _, Lib.hid (hgp.out.set _ _)⟩, by simp [intOf]; omega⟩
              · clear hg6 hgp
                go_wp2_with fail
                obtain ⟨w7, hw7⟩ : ∃ w7, w7 = wr := ⟨_, rfl⟩
                subst hw7
                have hSo7 : Sl w7 3 (.slice oA xs.length oc) xs.length (xs.flatMap Done.cells) := hSo.below hBp
                have hBw7 : Below w.heap.size w w7 := hB3w.trans (hBp.mono hB3w.size)
                go_loopw [84, 12] (fun i s wq => ∃ k : Nat, k ≤ xs.length ∧ i = .int .i64 k ∧ Below w7.heap.size w7 wq) (fun i s wq => xs.length - (intOf i).toNat)
                case atStart => exact ⟨0, Nat.zero_le _, rfl, Below.refl _ _⟩
                case round =>
                  obtain ⟨k9, hk9, rfl, hBr⟩ := hrel
                  have hBwr : Below w.heap.size w wr := hBw7.trans (hBr.mono hBw7.size)
                  by_cases hlt9 : k9 < xs.length
                  · obtain ⟨bg, og, rfl, _, hadd1, hcell1⟩ := Sl.row' (s := 3) (f := Done.cells) (xs := xs) (k := k9) (fun _ => rfl) (by omega) (hSo7.below hBr) hlt9
                    obtain ⟨bv, ov, rfl, _, hadd2, hcell2⟩ := Sl.row' (s := 3) (f := Done.cells) (xs := xs) (k := k9) (fun _ => rfl) (by omega) (h.below hBwr) hlt9
                    have a0 : wr.cell? ⟨bg, og + k9 * 3, none⟩ = _ := hcell1 0 _ rfl
                    have a1 := hcell1 1 _ rfl
                    have a2 := hcell1 2 _ rfl
                    have b0 : wr.cell? ⟨bv, ov + k9 * 3, none⟩ = _ := hcell2 0 _ rfl
                    have b1 := hcell2 1 _ rfl
                    have b2 := hcell2 2 _ rfl
                    clear hcell1 hcell2
                    generalize xs[k9] = x at a0 a1 a2 b0 b1 b2
                    have i0 : (0 : Int) ≤ (k9 : Int) := by omega
                    have i1 : (k9 : Int) < (xs.length : Int) := by omega
                    go_wp2_with fail
                    go_quiet (fail)
                    go_wp2_with fail
                    exact ⟨⟨k9 + 1, by omega, by go_num, below_drewN hBr _⟩, by simp [intOf]; omega⟩
                  · go_wp2_with fail
                    go_ret
                    exact ⟨rfl, hBwr⟩
      · have hSd := hSw.drop (k := m - 32) (by omega)
        have hcc : ¬ wc = m - 32 := by omega
        rw [if_neg hcc, drop_flat (s := 3) Done.cells (fun _ => rfl)] at hSd
        have e : K.drop (m - 32) = L := by rw [hL]; unfold lastN; rw [← hm]
        rw [e] at hSd
        obtain ⟨n, hn⟩ : ∃ n, n = L.length := ⟨_, rfl⟩
        have hLl : m - (m - 32) = n := by rw [hn, ← e, List.length_drop]; omega
        rw [← hn] at hsG hgok hgc ⊢
        rw [← hm] at hSd hwc ⊢
        rw [hLl] at hSd
        have HL := Lib.hid hn
        have hSv := hSd
        have hmI : (32 : Int) < ((m : Nat) : Int) := by omega
        have hn60 : n ≤ 60 := by omega
        clear hgo hown hL e hm hn hSd hSw
        go_wp2_with fail
        simp only [hLl]
        clear hLl
        generalize Option.map (fun x => x.add ((m - 32) * 3)) wA = vA at hSv ⊢
        generalize wc - (m - 32) = vc at hSv ⊢
        obtain ⟨w5, hw5⟩ : ∃ w5, w5 = wr := ⟨_, rfl⟩
        subst hw5
        go_loopw [59, 10] (fun i s wq => ∃ k : Nat, k ≤ n ∧ i = .int .i64 k ∧ Below w5.heap.size w5 wq) (fun i s wq => n - (intOf i).toNat)
        case atStart => exact ⟨0, Nat.zero_le _, rfl, Below.refl _ _⟩
        case round =>
          obtain ⟨k7, hk7, rfl, hBq⟩ := hrel
          have hln := HL.out
          by_cases hlt7 : k7 < n
          · obtain ⟨bg, og, rfl, _, hadd1, hcell1⟩ := Sl.row' (s := 3) (f := Done.cells) (xs := L) (k := k7) (fun _ => rfl) (by omega) (by rw [← hln]; exact hsG.below hBq) (by omega)
            obtain ⟨bv, ov, rfl, _, hadd2, hcell2⟩ := Sl.row' (s := 3) (f := Done.cells) (xs := L) (k := k7) (fun _ => rfl) (by omega) (by rw [← hln]; exact hSv.below hBq) (by omega)
            have a0 : wr.cell? ⟨bg, og + k7 * 3, none⟩ = _ := hcell1 0 _ rfl
            have a1 := hcell1 1 _ rfl
            have a2 := hcell1 2 _ rfl
            have b0 : wr.cell? ⟨bv, ov + k7 * 3, none⟩ = _ := hcell2 0 _ rfl
            have b1 := hcell2 1 _ rfl
            have b2 := hcell2 2 _ rfl
            clear hcell1 hcell2
            generalize L[k7] = x at a0 a1 a2 b0 b1 b2
            have i0 : (0 : Int) ≤ (k7 : Int) := by omega
            have i1 : (k7 : Int) < (n : Int) := by omega
            clear hln
            go_wp2_with fail
            go_quiet (fail)
            go_wp2_with fail
            exact ⟨⟨k7 + 1, by omega, by go_num, below_drewN hBq _⟩, by simp [intOf]; omega⟩
          · clear hln
            go_wp2_with fail
            obtain ⟨w6, hw6⟩ : ∃ w6, w6 = wr := ⟨_, rfl⟩
            subst hw6
            have hB36 : Below w3.heap.size w3 w6 := hB35.trans (hBq.mono hs35)
            have hg6 : Hid (GotOk w6 w3.heap.size gA n) := Lib.hid (fun k hk => by
              obtain ⟨g, u, h1, h2, h3, h4⟩ := hgok.out k hk
              have hlt : g < w5.heap.size := by simpa using World.block_lt_of_cell? _ _ h3
              exact ⟨g, u, h1, h2, (hBq.cell (p := ⟨g, _, none⟩) hlt).trans h3, (hBq.frozen (p := ⟨g, _, none⟩) hlt).trans h4⟩)
            clear hsG hSv hgok HL
            go_loopw [74, 11] (fun i s wq => ∃ k : Nat, k ≤ n ∧ i = .int .i64 k ∧ Below w3.heap.size w3 wq ∧ Hid (GotOk wq w3.heap.size gA n)) (fun i s wq => n - (intOf i).toNat)
            case atStart => exact ⟨0, Nat.zero_le _, rfl, hB36, hg6⟩
            case round =>
              obtain ⟨k8, hk8, rfl, hBp, hgp⟩ := hrel
              by_cases hlt8 : k8 < n
              · obtain ⟨g, u, h1, h2, h3, h4⟩ := hgp.out k8 hlt8
                subst h1
                have i0 : (0 : Int) ≤ (k8 : Int) := by omega
                have i1 : (k8 : Int) < (n : Int) := by omega
                go_wp2_with fail
                exact ⟨⟨k8 + 1, by omega, by go_num, hBp.setCell (p := ⟨g, _, none⟩) h2 _, Lib.hid (hgp.out.set _ _)⟩, by simp [intOf]; omega⟩
              · clear hg6 hgp
                go_wp2_with fail
                obtain ⟨w7, hw7⟩ : ∃ w7, w7 = wr := ⟨_, rfl⟩
                subst hw7
                have hSo7 : Sl w7 3 (.slice oA xs.length oc) xs.length (xs.flatMap Done.cells) := hSo.below hBp
                have hBw7 : Below w.heap.size w w7 := hB3w.trans (hBp.mono hB3w.size)
                go_loopw [84, 12] (fun i s wq => ∃ k : Nat, k ≤ xs.length ∧ i = .int .i64 k ∧ Below w7.heap.size w7 wq) (fun i s wq => xs.length - (intOf i).toNat)
                case atStart => exact ⟨0, Nat.zero_le _, rfl, Below.refl _ _⟩
                case round =>
                  obtain ⟨k9, hk9, rfl, hBr⟩ := hrel
                  have hBwr : Below w.heap.size w wr := hBw7.trans (hBr.mono hBw7.size)
                  by_cases hlt9 : k9 < xs.length
                  · obtain ⟨bg, og, rfl, _, hadd1, hcell1⟩ := Sl.row' (s := 3) (f := Done.cells) (xs := xs) (k := k9) (fun _ => rfl) (by omega) (hSo7.below hBr) hlt9
                    obtain ⟨bv, ov, rfl, _, hadd2, hcell2⟩ := Sl.row' (s := 3) (f := Done.cells) (xs := xs) (k := k9) (fun _ => rfl) (by omega) (h.below hBwr) hlt9
                    have a0 : wr.cell? ⟨bg, og + k9 * 3, none⟩ = _ := hcell1 0 _ rfl
                    have a1 := hcell1 1 _ rfl
                    have a2 := hcell1 2 _ rfl
                    have b0 : wr.cell? ⟨bv, ov + k9 * 3, none⟩ = _ := hcell2 0 _ rfl
                    have b1 := hcell2 1 _ rfl
                    have b2 := hcell2 2 _ rfl
                    clear hcell1 hcell2
                    generalize xs[k9] = x at a0 a1 a2 b0 b1 b2
                    have i0 : (0 : Int) ≤ (k9 : Int) := by omega
                    have i1 : (k9 : Int) < (xs.length : Int) := by omega
                    go_wp2_with fail
                    go_quiet (fail)
                    go_wp2_with fail
                    exact ⟨⟨k9 + 1, by omega, by go_num, below_drewN hBr _⟩, by simp [intOf]; omega⟩
                  · go_wp2_with fail
                    go_ret
                    exact ⟨rfl, hBwr⟩
end Go.Proofs.Ytalmhnimmhgloaa
