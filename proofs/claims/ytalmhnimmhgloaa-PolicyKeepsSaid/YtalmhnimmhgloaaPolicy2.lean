/-
  The walks of package policy's Limit and Go.
-/
import Derived.Test.YtalmhnimmhgloaaPolicy
import Derived.Deep.RegionLaw
namespace Go.Proofs.Ytalmhnimmhgloaa
open Go.RowKit Go.Proofs.Mem Go.Proofs.Bit
set_option linter.unusedVariables false
set_option linter.unusedSimpArgs false
theorem info_int : (Try.prog.info? 3).map (fun i => (i.zero, i.size, i.bytes)) = some (some (.int .i64 0), 1, 8) := by kernel_rfl
theorem step_pushI {ops : Array Oper} {o : Oper} {a : Act} {w0 : World} {K : Act → World → Prop} {Q : Exit → Act → World → Prop} {E : Prop} (hgd : o.guard = none) (s x : Operand)
    (ho : o.op = .call { callee := .builtin .append, args := #[s, x], argTypes := #[34, 34] }) {base B : Nat} {W : World} {v : Value} {l : List Int} (hown : w0.ownsRow base 3 1 v l.length (l.map iv)) (y : Int)
    (hbw : Below B W w0) (hB : B ≤ base) (hb : base ≤ w0.heap.size) (hl : l.length ≤ 4096) (hs : a.eval s = v) (hx : a.eval x = .slice (some ⟨w0.heap.size, 0, none⟩) 1 1)
    (h : ∀ v' w', w'.ownsRow base 3 1 v' (l ++ [y]).length ((l ++ [y]).map iv) → Below B W w' → base ≤ w'.heap.size → K (a.put o.dst v') w') :
    if Region.wanted o (yielded ops a.tmps) = true then Oper.wp Try.prog o a (w0.alloc (.cells #[.int .i64 y] 3)) K Q else E := by
  have hw : Region.wanted o (yielded ops a.tmps) = true := by simp [Region.wanted, hgd]
  rw [if_pos hw]
  obtain ⟨v', w', hrun, h2, h3, h4⟩ := run_append (P := Try.prog) (w0.alloc (.cells #[.int .i64 y] 3)) base 34 o.type 3 _ 1 8 Try.underlying34 info_int rfl (by omega) (by omega) v _ _ (hown.alloc _) _ 1 [iv y]
    (Sl.made w0 #[.int .i64 y] 3 1 1 (Nat.le_refl _) rfl) (by intro u hu; simp at hu; subst hu; rfl) (by omega) (by simp; omega)
  unfold Oper.wp execOp
  simp only [ho, resolve, invoke, builtin, Sem.run_bind, Sem.run_pure, Result.andThen_ok, List.map_toArray, List.map_cons, List.map_nil, hs, hx, hrun]
  have hb1 : Below B W (w0.alloc (.cells #[.int .i64 y] 3)) := hbw.alloc (Nat.le_trans hB hb) _
  refine h v' w' (by simpa using h2) (below_grown hb1 (hown.alloc _) h3 (by simp; omega) hB) ?_
  have := h3.size
  simp at this
  omega
/-- So many there were at a period's start. -/
def startN (xs : List Done) (now t : Int) (up : Bool) (p : Pol) : Nat := (cnt (cnt t - net now p.period up xs)).toNat
def limL (xs : List Done) (now t : Int) (up : Bool) (ps : List Pol) : List Int := ps.map fun p => limV p (startN xs now t up p) up
def limR (t : Int) (up : Bool) (L : List Int) : Int := match L with | [] => t | x :: l => if up then maxL x l else minL x l
theorem limit_all (xs : List Done) (ps : List Pol) (q : Pol) (now t there win : Int) (up : Bool) (v pv : Value) (w : World) (hl : xs.length ≤ 100) (h : Sl w 3 v xs.length (xs.flatMap Done.cells)) (hn : 0 ≤ now ∧ now ≤ 4611686018427387904)
    (hps : ps.length ≤ 50) (hpv : Sl w 3 pv ps.length (ps.flatMap Pol.cells)) (hper : ∀ p ∈ ps, (Lit.int .i64 p.period).wf = true) (ht : t = cnt there) :
    Calls Try.prog 36 #[.agg #[.int .i64 win, .int .i64 0, pv], v, .int .i64 now, .int .i64 there, .bool up] w fun e w' =>
      e = .returned (.int .i64 (limR t up (limL xs now t up ps))) ∧ Below w.heap.size w w' := by
  have C1 : Hid (∀ w1, Calls Try.prog 35 #[.int .i64 there] w1 fun e w' => e = .returned (.int .i64 t) ∧ w1 = w') := Lib.hid (fun w1 => ht ▸ count_any there w1)
  have HT := Lib.hid ht
  clear ht
  obtain ⟨A, c, rfl, hc, _⟩ := id hpv
  go_enter Try.func36, Try.ntmps36
  go_wp2_with (go_at_call 35; refine (C1.out _).mono ?_; rintro e w' ⟨rfl, rfl⟩)
  obtain ⟨W0, hW0⟩ : ∃ W0, W0 = w.alloc (.cells #[.int .i64 win, .int .i64 0, .slice A ps.length c] 40) := ⟨_, rfl⟩
  have hk := Bk.new w 40 #[.int .i64 win, .int .i64 0, .slice A ps.length c]
  have hB0 : Below w.heap.size w W0 := by rw [hW0]; exact (Below.refl _ _).alloc (Nat.le_refl _) _
  have hsz : W0.heap.size = w.heap.size + 1 := by rw [hW0]; simp
  rw [← hW0] at hk
  rw [← hW0]
  go_loopw [28, 11, 13] (fun i s b wr => ∃ k : Nat, k ≤ ps.length ∧ i = .int .i64 k ∧ wr.ownsRow W0.heap.size 3 1 s (limL xs now t up (ps.take k)).length ((limL xs now t up (ps.take k)).map iv) ∧ Below W0.heap.size W0 wr) (fun i s b wr => ps.length - (intOf i).toNat)
  case atStart => exact ⟨0, Nat.zero_le _, rfl, World.ownsRow_nil .., Below.refl _ _⟩
  case round =>
    obtain ⟨k, hkl, rfl, hown, hB⟩ := hrel
    have hBw : Below w.heap.size w wr := hB0.trans (hB.mono hB0.size)
    by_cases hlt : k < ps.length
    · obtain ⟨b, o, rfl, hbl, hadd, hcell⟩ := Sl.row' (f := Pol.cells) (fun _ => rfl) (by omega) (hpv.below hBw) k hlt
      have a0 : wr.cell? ⟨b, o + k * 3, none⟩ = _ := hcell 0 _ rfl
      have a1 := hcell 1 _ rfl
      have a2 := hcell 2 _ rfl
      have hl2 : (limL xs now t up (ps.take k)).length ≤ 4096 := by unfold limL; simp; omega
      have hsn : limL xs now t up (ps.take (k + 1)) = limL xs now t up (ps.take k) ++ [limV ps[k] (startN xs now t up ps[k]) up] := by
        unfold limL
        rw [List.take_succ_eq_append_getElem hlt, List.map_append]
        rfl
      have hwf := hper _ (List.getElem_mem hlt)
      generalize limL xs now t up (ps.take k) = l at hown hl2 hsn
      generalize ps[k] = p at a0 a1 a2 hsn hwf
      have hs6 : startN xs now t up p ≤ 1000000 := by
        have := cnt_bd (cnt t - net now p.period up xs)
        unfold startN
        omega
      have C2 : Hid (∀ w1, Below w.heap.size w w1 → Calls Try.prog 59 #[v, .int .i64 now, .int .i64 p.period, .int .i64 t, .bool up] w1 fun e w' => e = .returned (.int .i64 (startN xs now t up p)) ∧ Below w1.heap.size w1 w') :=
        Lib.hid (fun w1 hb => by
          have e : ((startN xs now t up p : Nat) : Int) = cnt (cnt t - net now p.period up xs) := by
            have := cnt_bd (cnt t - net now p.period up xs)
            unfold startN
            omega
          rw [e]
          exact start_any xs now p.period t up v w1 hl (h.below hb) hn hwf)
      obtain ⟨y, hy⟩ : ∃ y, y = limV p (startN xs now t up p) up := ⟨_, rfl⟩
      rw [← hy] at hsn
      have C3 : Hid (∀ w1, Calls Try.prog 58 #[.agg #[.bool p.pct, .int .i64 p.value, .int .i64 p.period], .int .i64 (startN xs now t up p), .bool up] w1 fun e w' => e = .returned (.int .i64 y) ∧ Below w1.heap.size w1 w') :=
        Lib.hid (fun w1 => by rw [hy]; exact limit_any p _ up w1 hs6)
      have HS := Lib.hid hsn
      clear hsn hy hwf hcell hs6 hper hn hpv
      generalize startN xs now t up p = sn at C2 C3
      go_wp2_with fail
      go_region_law (first
        | (go_simp; go_at_call 59; refine (C2.out _ ((hBw.alloc hBw.size _).drew)).mono ?_; rintro e w2 ⟨rfl, hb2⟩; have hkp := ((Bk.new wr 37 #[.bool p.pct, .int .i64 p.value, .int .i64 p.period]).drew).below' hb2; have p0 : w2.cell? ⟨wr.heap.size, 0, none⟩ = some (.bool p.pct) := hkp.cell 0; have p1 : w2.cell? ⟨wr.heap.size, 1, none⟩ = some (.int .i64 p.value) := hkp.cell 1; have p2 : w2.cell? ⟨wr.heap.size, 2, none⟩ = some (.int .i64 p.period) := hkp.cell 2; clear hkp)
        | (go_simp; go_at_call 58; refine (C3.out _).mono ?_; rintro e w3 ⟨rfl, hb3⟩)
        | (refine step_pushI rfl _ _ rfl (own_below (own_below hown (((Below.refl _ _).alloc (Nat.le_refl _) _).drew.trans (hb2.mono (by simp)))) hb3) y ((hB.trans ((((Below.refl _ _).alloc (Nat.le_refl _) _).drew.trans (hb2.mono (by simp))).mono hB.size)).trans (hb3.mono (Nat.le_trans hB.size (by have := hb2.size; simp at this; omega)))) (Nat.le_refl _) (by have := hb2.size; have := hb3.size; have := hB.size; simp at *; omega) hl2 rfl rfl ?_; intro v' w4 hown4 hB4 hle4))
      all_goals
        go_wp2_with fail
        all_goals exact ⟨⟨k + 1, by omega, by go_num, by rw [HS.out]; exact hown4, hB4⟩, by simp [intOf]; omega⟩
    · have e : ps.take k = ps := List.take_of_length_le (by omega)
      rw [e] at hown
      have hkk := hk.below hB (by omega)
      have b0 := hkk.cell 0
      have b1 := hkk.cell 1
      have b2 := hkk.cell 2
      have hlen : (limL xs now t up ps).length ≤ 50 := by unfold limL; simp; omega
      clear e hpv hper hk hkk hB0 hn
      obtain ⟨L, hL⟩ : ∃ L, L = limL xs now t up ps := ⟨_, rfl⟩
      rw [← hL] at hown hlen
      cases L with
      | nil =>
        obtain ⟨A2, c2, rfl, _⟩ := Sl.of_own hown
        have HL := Lib.hid hL
        clear hL hown
        go_wp2_with fail
        go_ret
        refine ⟨?_, hBw⟩
        rw [← HL.out]
        rfl
      | cons x l =>
        have hSl := Sl.of_own hown
        obtain ⟨A2, c2, rfl, _⟩ := id hSl
        have hp : (0 : Int) < (((x :: l).length : Nat) : Int) := by simp
        obtain ⟨n, hn⟩ : ∃ n, n = (x :: l).length := ⟨_, rfl⟩
        rw [← hn] at hSl hp hlen
        have M1 := Lib.hid (max_any x l n _ wr hn (by omega) hSl)
        have M2 := Lib.hid (min_any x l n _ wr hn (by omega) hSl)
        rw [← hn]
        have HL := Lib.hid hL
        have hz : ((n : Int) == 0) = false := by simp; omega
        clear hL hown hSl hn
        cases up
        · go_wp2_with fail
          refine M2.out.mono ?_
          rintro e w5 ⟨rfl, rfl⟩
          go_wp2_with fail
          go_ret
          refine ⟨?_, hBw⟩
          rw [← HL.out]
          rfl
        · go_wp2_with fail
          refine M1.out.mono ?_
          rintro e w5 ⟨rfl, rfl⟩
          go_wp2_with fail
          go_ret
          refine ⟨?_, hBw⟩
          rw [← HL.out]
          rfl
/-- How far one goes. -/
def goR (xs : List Done) (now : Int) (pu pd : List Pol) (t u : Int) : Int :=
  if t < u then max t (min u (limR t true (limL xs now t true pu))) else if u < t then min t (max u (limR t false (limL xs now t false pd))) else t
theorem cnt_cnt (n : Int) : cnt (cnt n) = cnt n := by unfold cnt; omega
theorem go_any (xs : List Done) (pu pd : List Pol) (now there toward wu wd : Int) (v vu vd : Value) (w : World) (hl : xs.length ≤ 100) (h : Sl w 3 v xs.length (xs.flatMap Done.cells)) (hn : 0 ≤ now ∧ now ≤ 4611686018427387904)
    (hpu : pu.length ≤ 50) (hu : Sl w 3 vu pu.length (pu.flatMap Pol.cells)) (hpeu : ∀ p ∈ pu, (Lit.int .i64 p.period).wf = true)
    (hpd : pd.length ≤ 50) (hd : Sl w 3 vd pd.length (pd.flatMap Pol.cells)) (hped : ∀ p ∈ pd, (Lit.int .i64 p.period).wf = true) :
    Calls Try.prog 17 #[.agg #[.int .i64 wu, .int .i64 0, vu], .agg #[.int .i64 wd, .int .i64 0, vd], v, .int .i64 now, .int .i64 there, .int .i64 toward] w fun e w' =>
      e = .returned (.int .i64 (goR xs now pu pd (cnt there) (cnt toward))) ∧ Below w.heap.size w w' := by
  obtain ⟨t, ht⟩ : ∃ t, t = cnt there := ⟨_, rfl⟩
  obtain ⟨u, hu2⟩ : ∃ u, u = cnt toward := ⟨_, rfl⟩
  have C1 : Hid (∀ w1, Calls Try.prog 35 #[.int .i64 there] w1 fun e w' => e = .returned (.int .i64 t) ∧ w1 = w') := Lib.hid (fun w1 => ht ▸ count_any there w1)
  have C2 : Hid (∀ w1, Calls Try.prog 35 #[.int .i64 toward] w1 fun e w' => e = .returned (.int .i64 u) ∧ w1 = w') := Lib.hid (fun w1 => hu2 ▸ count_any toward w1)
  have htt : t = cnt t := by rw [ht, cnt_cnt]
  have C3 := Lib.hid (fun w1 (hb : Below w.heap.size w w1) => limit_all xs pu ⟨false, 0, 0⟩ now t t wu true v vu w1 hl (h.below hb) hn hpu (hu.below hb) hpeu htt)
  have C4 := Lib.hid (fun w1 (hb : Below w.heap.size w w1) => limit_all xs pd ⟨false, 0, 0⟩ now t t wd false v vd w1 hl (h.below hb) hn hpd (hd.below hb) hped htt)
  obtain ⟨r, hr⟩ : ∃ r, r = goR xs now pu pd t u := ⟨_, rfl⟩
  rw [← ht, ← hu2, ← hr]
  obtain ⟨lu, hlu⟩ : ∃ l, l = limR t true (limL xs now t true pu) := ⟨_, rfl⟩
  obtain ⟨ld, hld⟩ : ∃ l, l = limR t false (limL xs now t false pd) := ⟨_, rfl⟩
  unfold goR at hr
  rw [← hlu, ← hld] at hr
  rw [← hlu] at C3
  rw [← hld] at C4
  clear hlu hld htt ht hu2 hu hd h hn hpeu hped
  by_cases h1 : t < u
  · have HR : Hid (max t (min u lu) = r) := Lib.hid (by rw [hr, if_pos h1])
    clear hr
    go_enter Try.func17, Try.ntmps17
    go_wp2_with fail
    refine (C1.out _).mono ?_
    rintro e w1 ⟨rfl, rfl⟩
    go_wp2_with fail
    refine (C2.out _).mono ?_
    rintro e w1 ⟨rfl, rfl⟩
    go_wp2_with fail
    refine (C3.out _ (((Below.refl _ _).alloc (Nat.le_refl _) _).alloc (by simp) _)).mono ?_
    rintro e w1 ⟨rfl, hb⟩
    go_wp2_with fail
    go_ret
    exact ⟨ret_int HR.out, (((Below.refl _ _).alloc (Nat.le_refl _) _).alloc (by simp) _).trans (hb.mono (by simp; omega))⟩
  · by_cases h2 : u < t
    · have HR : Hid (min t (max u ld) = r) := Lib.hid (by rw [hr, if_neg h1, if_pos h2])
      clear hr
      go_enter Try.func17, Try.ntmps17
      go_wp2_with fail
      refine (C1.out _).mono ?_
      rintro e w1 ⟨rfl, rfl⟩
      go_wp2_with fail
      refine (C2.out _).mono ?_
      rintro e w1 ⟨rfl, rfl⟩
      go_wp2_with fail
      refine (C4.out _ (((Below.refl _ _).alloc (Nat.le_refl _) _).alloc (by simp) _)).mono ?_
      rintro e w1 ⟨rfl, hb⟩
      go_wp2_with fail
      go_ret
      exact ⟨ret_int HR.out, (((Below.refl _ _).alloc (Nat.le_refl _) _).alloc (by simp) _).trans (hb.mono (by simp; omega))⟩
    · have HR : Hid (t = r) := Lib.hid (by rw [hr, if_neg h1, if_neg h2])
      clear hr
      go_enter Try.func17, Try.ntmps17
      go_wp2_with fail
      refine (C1.out _).mono ?_
      rintro e w1 ⟨rfl, rfl⟩
      go_wp2_with fail
      refine (C2.out _).mono ?_
      rintro e w1 ⟨rfl, rfl⟩
      go_wp2_with fail
      go_ret
      exact ⟨ret_int HR.out, ((Below.refl _ _).alloc (Nat.le_refl _) _).alloc (by simp) _⟩
end Go.Proofs.Ytalmhnimmhgloaa
