/-
  trimtablaw06.OctetReads: the walk. (printed by wip/gen_or1.py)
-/
import Derived.Test.YthdjfcfbmmmmcaaRp9
import Derived.Test.YthdjfcfbmmmmcaaQuiet
import Derived.Test.YthdjfcfbmmmmcaaOpen
namespace Go.Proofs.Ythdjfcfbmmmmcaa
open Go.RowKit Go.Proofs.Mem Go.Sort
set_option linter.unusedVariables false
set_option linter.unusedSimpArgs false
set_option maxHeartbeats 1000000 in
set_option maxRecDepth 100000 in
theorem octetReads_long (A : Option Addr) (n c : Nat) (hn : 2000 < n) (w : World) :
    Calls Try.prog 3 #[.slice A n c] w fun e w' => e = .returned (.bool true) ∧ Below w.heap.size w w' := by
  have h1 : (2000 : Int) < (n : Int) := by omega
  go_enter Try.func3, Try.ntmps3
  go_wp2_with fail
  refine (lives06_any _).mono ?_
  rintro e w1 ⟨rfl, hb1⟩
  go_wp2_with fail
  refine (lives06_any _).mono ?_
  rintro e w2 ⟨rfl, hb2⟩
  go_wp2_with fail
  go_ret
  exact ⟨rfl, below_tr hb1 hb2⟩
/-- A row of the call's own of n octets, each of which is one. -/
def Oc (w : World) (base : Nat) (v : Value) (n : Nat) : Prop := ∃ ys : List Int, w.ownsRow base 5 1 v n (ys.map (fun y => Value.int .u8 y)) ∧ ys.length = n
theorem own_u8 {w : World} {base n : Nat} {v : Value} {ys : List Int} (h : w.ownsRow base 5 1 v n (ys.map (fun y => Value.int .u8 y))) (i : Nat) (hi : i < n) :
    ∃ g cap cur y, v = .slice (some ⟨g, 0, none⟩) n cap ∧ base ≤ g ∧ Bk w g 5 cur ∧ cur[i]? = some (.int .u8 y) ∧ ∀ z, (w.setCell ⟨g, i, none⟩ (.int .u8 z)).ownsRow base 5 1 v n ((ys.set i z).map (fun y => Value.int .u8 y)) := by
  obtain ⟨hl, h2⟩ := h
  rcases h2 with ⟨_, h0⟩ | ⟨g, cap, cur, hv, hg, hh, h3, h4, h5, h6⟩
  · omega
  · have hlen : ys.length = n := by simpa using hl
    have hk : Bk w g 5 cur := hh
    have hsz : cur.size = cap := by simpa using h5
    have hci : cur[i]? = some (.int .u8 ys[i]) := by
      have e1 : (cur.toList.take (n * 1))[i]? = (ys.map (fun y => Value.int .u8 y))[i]? := by rw [← h6]
      rw [List.getElem?_take, if_pos (by omega), Array.getElem?_toList] at e1
      rw [e1, List.getElem?_map, List.getElem?_eq_getElem (by omega)]
      rfl
    refine ⟨g, cap, cur, ys[i], hv, hg, hk, hci, fun z => ?_⟩
    subst hv
    have h7 := (hk.set i (.int .u8 z)).own (base := base) (size := 1) (n := n) (c := cap) hg h3 h4 (by simpa using hsz)
    have e2 : (cur.setIfInBounds i (.int .u8 z)).toList.take (n * 1) = (ys.set i z).map (fun y => Value.int .u8 y) := by
      rw [Array.toList_setIfInBounds, List.take_set, h6, List.map_set]
    rw [e2] at h7
    exact h7
section
variable {P : Program} {ops : Array Oper} {w0 : World} {Q : Act → Prop} {a : Act} {o : Oper} {rest : List Oper}
theorem q_read (hw : Region.wanted o (yielded ops a.tmps) = true) (v : Value) (hr : ∀ w', Below w0.heap.size w0 w' → (execOp a.eval o).run P w' = .ok (.value v) w')
    (h : wpQuiet P ops (fun w' => ∃ p : Regrown, w' = grow (redrawn w0 p.d) p.os) Q rest (a.put o.dst v)) : wpQuiet P ops (fun w' => ∃ p : Regrown, w' = grow (redrawn w0 p.d) p.os) Q (o :: rest) a := by
  refine wpQuiet_step fun K hK => ?_
  rw [if_pos hw]
  refine ⟨v, fun w' hC => ?_, hK _ h⟩
  obtain ⟨p, rfl⟩ := hC
  have := hr _ (below_regrown w0 p.d p.os)
  unfold Oper.quietAt
  rw [this]
  exact ⟨rfl, by simp⟩
theorem q_conv (hw : Region.wanted o (yielded ops a.tmps) = true) (t1 t2 : TypeId) (x : Operand) (ho : o.op = .convert t1 t2 x) (v : Value) (hx : a.eval x = v) (u : Value) (hr : ∀ w', Below w0.heap.size w0 w' → (convert t1 t2 v).run P w' = .ok u w')
    (h : wpQuiet P ops (fun w' => ∃ p : Regrown, w' = grow (redrawn w0 p.d) p.os) Q rest (a.put o.dst u)) : wpQuiet P ops (fun w' => ∃ p : Regrown, w' = grow (redrawn w0 p.d) p.os) Q (o :: rest) a := by
  refine q_read hw _ (fun w' hb => ?_) h
  unfold execOp
  simp only [ho, hx, Sem.run_bind, hr w' hb, Result.andThen_ok, Sem.run_pure]
theorem q_loadw {g : Nat} {t : TypeId} {cs : Array Value} (hk : Bk w0 g t cs) (hw : Region.wanted o (yielded ops a.tmps) = true) (ty : TypeId) (x : Operand) (ho : o.op = .load ty x)
    (hx : a.eval x = .pointer (some ⟨g, 0, none⟩)) (d : TypeDesc) (hu : P.underlying ty = some d) (hd : d.isRow = true) (hi : (P.info? ty).map (·.size) = some cs.size)
    (h : wpQuiet P ops (fun w' => ∃ p : Regrown, w' = grow (redrawn w0 p.d) p.os) Q rest (a.put o.dst (.agg cs))) : wpQuiet P ops (fun w' => ∃ p : Regrown, w' = grow (redrawn w0 p.d) p.os) Q (o :: rest) a := by
  refine q_read hw _ (fun w' hb => ?_) h
  have hr := run_loadAt_mid (P := P) w' g 0 ty cs.toList d (hk.below' hb).range hu hd (by simpa using hi)
  unfold execOp
  simp only [ho, hx, Sem.run_bind, hr, Result.andThen_ok, Sem.run_pure]
end
theorem obs_zero : ObS Ob.zero := ⟨(by show ByteArray.size ⟨#[]⟩ ≤ 255; decide), fun _ => ⟨⟨by decide, by simp [Ob.zero, Wl.zero, Row.nil]⟩, ⟨by decide, by simp [Ob.zero, Wl.zero, Row.nil]⟩, ⟨by decide, by simp [Ob.zero, Wl.zero, Row.nil]⟩⟩, fun e => absurd (show (0 : Int) = 1 from e) (by decide), fun e => absurd (show (0 : Int) = 2 from e) (by decide), fun e => absurd (show (0 : Int) = 3 from e) (by decide), fun e => absurd (show (0 : Int) = 4 from e) (by decide)⟩
/-- What the two functions of the reference say of an object that was read. -/
def Says (f : FuncId) : Prop := ∀ (o : Ob) (w : World), Sole o → o.Ok w → ObS o → Calls Try.prog f #[.agg o.cells.toArray] w fun e w' => e = .returned (.bool true) ∧ Below w.heap.size w w'
theorem shlL_s {l : List Lab} (h : LabsS l) : shlL l = true := by
  unfold shlL
  simp only [Bool.and_eq_true, List.all_eq_true, decide_eq_true_eq]
  exact ⟨fun x hx => by have := h.2 x hx; unfold shlX; simpa [s255] using this, h.1⟩
theorem shaL_s {l : List Req} (h : ReqsS l) : shaL l = true := by
  unfold shaL
  simp only [Bool.and_eq_true, List.all_eq_true, decide_eq_true_eq]
  exact ⟨fun x hx => by have := h.2 x hx; unfold shaX; simpa [s255] using this, h.1⟩
theorem says_short : Says 13 := by
  intro o w h ho hS
  obtain ⟨hn, h0, h1, h2, h3, h4⟩ := hS
  have hnn : decide (o.name.size ≤ 255) = true := decide_eq_true hn
  have close : ∀ (b : Bool) (hb : b = true), Calls Try.prog 13 #[.agg o.cells.toArray] w (fun e w' => e = .returned (.bool (decide (o.name.size ≤ 255) && b)) ∧ Below w.heap.size w w') → Calls Try.prog 13 #[.agg o.cells.toArray] w (fun e w' => e = .returned (.bool true) ∧ Below w.heap.size w w') := by
    intro b hb hc
    rw [hnn, hb] at hc
    exact hc
  rcases h with ⟨n, v, x, e⟩ | ⟨n, v, x, e⟩ | ⟨n, v, x, e⟩ | ⟨n, v, x, e⟩ | ⟨n, v, x, e⟩
  · have hk : o.kind = 0 := by rw [e]
    have hs := h0 hk
    exact close _ (by unfold wlSh; rw [shlL_s hs.1, shaL_s hs.2.1, shlL_s hs.2.2]; rfl) (short_wl o w hk ho.w ho.name)
  · have hk : o.kind = 1 := by rw [e]
    have hs := h1 hk
    exact close _ (by unfold pdSh; rw [decide_eq_true (show _ ≤ 255 from hs.1), decide_eq_true (show _ ≤ 255 from hs.2.1), shlL_s hs.2.2.1, shaL_s hs.2.2.2.1, shlL_s hs.2.2.2.2]; rfl) (short_pd o w hk ho.p ho.name)
  · have hk : o.kind = 2 := by rw [e]
    have hs := h2 hk
    exact close _ (by unfold ndSh; rw [decide_eq_true (show _ ≤ 255 from hs.1), shlL_s hs.2.1, shlL_s hs.2.2]; rfl) (short_nd o w hk ho.n ho.name)
  · have hk : o.kind = 3 := by rw [e]
    have hs := h3 hk
    exact close _ (by unfold grSh; rw [shlL_s hs.1, shlL_s hs.2]; rfl) (short_gr o w hk ho.g ho.name)
  · have hk : o.kind = 4 := by rw [e]
    have hs := h4 hk
    exact close _ (by
      unfold hpSh
      have hm : o.h.metrics.l.all metX = true := by rw [List.all_eq_true]; exact fun m hm => decide_eq_true (hs.2.2.1 m hm)
      rw [hm, decide_eq_true (show _ ≤ 255 from hs.1), decide_eq_true (show _ ≤ 255 from hs.2.1), decide_eq_true (show _ ≤ 255 from hs.2.2.2.2.2), decide_eq_true (show _ ≤ 255 from hs.2.2.2.1), decide_eq_true (show _ ≤ 255 from hs.2.2.2.2.1)]
      rfl) (short_hp o w hk ho.h ho.name)
set_option maxHeartbeats 1000000 in
set_option maxRecDepth 100000 in
theorem octetReads_ok (HE : Says 9) (HSh : Says 13) (A : Option Addr) (c : Nat) (bs : List UInt8) (hb : bs.length ≤ 2000) (w : World) (hA : Sl w 1 (.slice A bs.length c) bs.length (bs.map bv)) :
    Calls Try.prog 3 #[.slice A bs.length c] w fun e w' => e = .returned (.bool true) ∧ Below w.heap.size w w' := by
  have hl1 : (bs.length : Int) ≤ 2000 := by omega
  have HA := Lib.hid hA
  have HB := Lib.hid hb
  obtain ⟨n, hn⟩ : ∃ n, n = bs.length := ⟨_, rfl⟩
  have CR := Lib.hid (fun w1 v (h1 : Sl w1 1 v n (bs.map bv)) => read_any n bs hn.symm v w1 h1 (by omega))
  have CN := Lib.hid hn
  have hnb : n ≤ 2000 := by omega
  rw [← hn] at hl1 HA
  rw [← hn]
  clear hn hA hb
  go_enter Try.func3, Try.ntmps3
  go_wp2_with fail
  refine (lives06_any _).mono ?_
  rintro e w1 ⟨rfl, hb1⟩
  have hk : Bk (w1.alloc (.cells #[] 5)) w1.heap.size 5 #[] := Bk.new w1 _ _
  have hown : (w1.alloc (.cells #[] 5)).ownsRow w1.heap.size 5 1 (.slice (some ⟨w1.heap.size, 0, none⟩) 0 0) 0 [] := by
    have := hk.own (base := w1.heap.size) (size := 1) (n := 0) (c := 0) (Nat.le_refl _) (Nat.le_refl _) (by simp [maxLen]) rfl
    simpa using this
  have hAs := (HA.out.below hb1).alloc (.cells #[] 5)
  go_upto_region 4 with (at_builtin; refine wpl_append rfl _ _ _ rfl w1.heap.size 5 _ 1 1 Try.underlying22 info_u8 rfl (by omega) (by omega) _ _ _ rfl hown _ n _ rfl hAs (bv_one _) (by omega) (by simp) ?_; intro v1 w2 hown2 hgrow2 _)
  have hB2 := below_grown ((Below.refl w1.heap.size w1).alloc (Nat.le_refl _) (.cells #[] 5)) hown hgrow2 (by simp) (Nat.le_refl _)
  have hBw2 := below_tr hb1 hB2
  have hown2' : w2.ownsRow w1.heap.size 5 1 v1 n (bs.map bv) := by simpa using hown2
  have CRR := Lib.hid (CR.out w2 v1 (Sl.of_own hown2'))
  clear hk hown hAs hown2 hgrow2
  go_wp2_with fail
  refine CRR.out.mono ?_
  rintro e w3 ⟨p, rfl, ⟨r, hR, hr⟩, hp, hb3⟩
  have hBw3 := below_tr hBw2 hb3
  have hown3 := own_below hown2' hb3
  have hown4 : w3.ownsRow w1.heap.size 5 1 v1 n ((bs.map fun b => (b.toNat : Int)).map (fun y => Value.int .u8 y)) := by
    rw [List.map_map]; exact hown3
  have hv1 : ∀ g, v1.ownBlock = some g → g < w2.heap.size := fun g hg => (hown2'.lt g hg).2
  have hbase := hBw2.size
  have hw1 := hb1.size
  obtain ⟨A1, c1, hv1e, _⟩ := Sl.of_own hown2'
  subst hv1e
  clear hown3 hown2' hb3 hBw2 hB2 CRR hb1
  go_wp2_with fail
  go_loopw [23] (fun i wr => ∃ k : Nat, k ≤ n ∧ i = .int .i64 k ∧ Below w.heap.size w wr ∧ RdO wr p r bs false ∧ ∃ ys : List Int, wr.ownsRow w1.heap.size 5 1 (.slice A1 n c1) n (ys.map (fun y => Value.int .u8 y))) (fun i wr => n - (intOf i).toNat)
  case atStart => exact ⟨0, Nat.zero_le _, rfl, hBw3, hR, _, hown4⟩
  case round =>
    obtain ⟨k, hk, rfl, hBr, hRr, ys, hys⟩ := hrel
    by_cases hlt : k < n
    · obtain ⟨g, cap, cur, y, hve, hg, hkb, hci, hset⟩ := own_u8 hys k hlt
      have hgv := hv1 g (by rw [hve]; rfl)
      injection hve with e1 e2 e3
      subst e1
      subst e3
      have ci := hkb.cell k
      rw [hci] at ci
      have fi := hkb.frozen k
      have hBs : ∀ z, Below w.heap.size w (wr.setCell ⟨g, k, none⟩ (.int .u8 z)) := fun z => hBr.setCell (p := ⟨g, k, none⟩) (by simp; omega) _
      have hRs : ∀ z, RdO (wr.setCell ⟨g, k, none⟩ (.int .u8 z)) p r bs false := fun z => hRr.keep (by simp [World.setCell]) (Below.heap_setCell _ _ _ _ (by simp; omega)) fun j hj => Below.heap_setCell _ _ _ _ (by have := hr j hj; simp; omega)
      have HK := Lib.hid (fun z => And.intro (hBs z) (And.intro (hRs z) (hset z)))
      have hlt' : (k : Int) < (n : Int) := by omega
      clear hBs hRs hset hBr hRr hys hkb hci
      go_wp2_with fail
      exact ⟨⟨k + 1, by omega, by go_num, (HK.out _).1, (HK.out _).2.1, _, (HK.out _).2.2⟩, by simp [intOf]; omega⟩
    · have hge : (n : Int) ≤ (k : Int) := by omega
      have hpw : w.heap.size ≤ p := by omega
      have CO := Lib.hid (robj_rd (st := some bs) (show RS wr p r (some bs) from ⟨hRr, by have := HB.out; omega⟩))
      clear hRr hys hR
      go_wp2_with fail
      refine CO.out.mono ?_
      rintro e w4 ⟨st', L, rfl, hR4, hT4, h47, hz, hS⟩
      have hB4 := hT4.below _ _ hBr hpw (by simp) hBr.size
      have HI : Hid ((Try.prog.info? 48).map (·.size) = some L.size) := Lib.hid (info47 h47)
      have hL1 : L.toList.all (·.oneCell') = true := h47.2
      have hZL : Z47.size = L.size := h47.1.symm
      have hk6 := Bk.new w4 48 Z47
      obtain ⟨W5, hW5⟩ : ∃ W5, W5 = (w4.alloc (.cells Z47 48)).setCells w4.heap.size 0 L.toList := ⟨_, rfl⟩
      have hb5 : Below w4.heap.size w4 W5 := by rw [hW5]; exact below_setCells _ _ (below_al w4 _) (Nat.le_refl _)
      have hkL : Bk W5 w4.heap.size 48 L := by rw [hW5]; exact setCells_whole hk6 hZL
      have hB5 := below_tr hB4 hb5
      have hR5 := hR4.below hb5
      have HW := Lib.hid hW5
      have CB := Lib.hid (bad_st hR5)
      clear hW5
      go_upto_region 11 with (first | (refine wpl_allocg rfl (run_alloc47 rfl _) ?_) | (refine wpl_storeg (cs := L) hk6 hZL rfl rfl 48 (.tmp 6) (.tmp 34) rfl rfl (by rfl) HI.out hL1 ?_))
      rw [← HW.out]
      clear hk6 HW
      generalize w4.heap.size = g6 at hkL ⊢
      cases st' with
      | none =>
        obtain rfl := hz rfl
        obtain ⟨bs2, hRb, hb2⟩ := hR5
        have c0 : W5.cell? ⟨g6, 0, none⟩ = some (.int .i64 0) := hkL.cell 0
        have c1 : W5.cell? ⟨g6, 1, none⟩ = some (.string ⟨#[]⟩) := hkL.cell 1
        have c2 : W5.cell? ⟨g6, 2, none⟩ = some (.int .u64 0) := hkL.cell 2
        have CE := Lib.hid (show Calls Try.prog 9 #[.agg Z47] W5 fun e w' => e = .returned (.bool true) ∧ Below W5.heap.size W5 w' from HE Ob.zero W5 (.inl ⟨_, _, _, rfl⟩) ⟨(rfl : wfi .i64 0), ws, (rfl : wfi .u64 0), zwl_ok _, zpd_ok _, znd_ok _, zgr_ok _, zhp_ok _⟩ obs_zero)
        clear hR4 hT4 hS hBr hz
        go_wp2_with fail
        refine CB.out.mono ?_
        rintro e wz ⟨rfl, rfl⟩
        go_wp2_with (refine wpl_loadg hkL rfl 48 (.tmp 6) rfl rfl _ Try.underlying48 rfl HI.out ?_)
        refine CE.out.mono ?_
        rintro e w6 ⟨rfl, hb6⟩
        have hR6 := hRb.below hb6
        have hB6 := below_tr hB5 hb6
        have CL := left_any w6 hR6 (by omega)
        simp only [if_true] at CL
        have CL := Lib.hid CL
        go_wp2_with fail
        refine CL.out.mono ?_
        rintro e wz ⟨rfl, rfl⟩
        go_wp2_with fail
        refine (get_bad 1 w6 hR6 (by omega) (.inr (.inl rfl))).mono ?_
        rintro e w7 ⟨rfl, hq7⟩
        have hR7 := hq7.1
        have hB7 := hq7.2.below _ _ hB6 hpw (by simp) hB6.size
        have CE := Lib.hid (end_any w7 hR7 (by omega))
        simp only [Bool.not_true, Bool.false_and] at CE
        clear hq7
        go_wp2_with fail
        refine CE.out.mono ?_
        rintro e wz ⟨rfl, rfl⟩
        go_wp2_with fail
        go_ret
        exact ⟨rfl, hB7⟩
      | some rest =>
        obtain ⟨bs', q, e1, hd, hq⟩ := hS.1 rest rfl
        injection e1 with e1
        subst e1
        have hj := codec_ob.just _ _ _ hd
        obtain ⟨ob, hLo, hSole, hOk, hObS, hkind, hbytes⟩ := ob_of hq hj.1
        have hrl : (objB ob).data.toList ++ rest = bs := by rw [hbytes]; exact hj.2
        have hOk5 := hOk.below hb5
        obtain ⟨m, hm⟩ : ∃ m, m = (objB ob).size := ⟨_, rfl⟩
        have hlen : m + rest.length = n := by rw [CN.out, ← hrl, List.length_append, hm]; rfl
        have hsub : (n : Int) - (rest.length : Int) = (m : Int) := by omega
        have hmn : (m : Int) ≤ (n : Int) := by omega
        have hm0 : (0 : Int) ≤ (m : Int) := by omega
        have hAm := Sl.take HA.out (show m ≤ n by omega)
        have hmc : m ≤ c := by have := (Sl.parts HA.out).2.1; omega
        have hbm : (bs.map bv).take (m * 1) = ((objB ob).data.toList).map bv := by
          rw [Nat.mul_one, ← List.map_take, ← hrl, hm]
          congr 1
          exact List.take_left' rfl
        rw [hbm] at hAm
        have CV := Lib.hid (fun w' (hb : Below W5.heap.size W5 w') => conv_bytes (objB ob).data.toList m hm.symm _ w' (hAm.below (below_tr hB5 hb)))
        have CSh := Lib.hid (fun w' (hb : Below W5.heap.size W5 w') => HSh ob w' hSole (hOk5.below hb) hObS)
        have CE := Lib.hid (fun w' (hb : Below W5.heap.size W5 w') => HE ob w' hSole (hOk5.below hb) hObS)
        have CO := Lib.hid (fun w' (hb : Below W5.heap.size W5 w') => object_any ob w' hkind (hOk5.below hb) hObS)
        rw [← hLo] at CSh CE CO
        have CL := left_any W5 hR5.1 hR5.2
        simp only [Bool.false_eq_true, if_false] at CL
        have CL := Lib.hid CL
        have hbb : (⟨(objB ob).data.toList.toArray⟩ : ByteArray) = objB ob := by
          generalize objB ob = s
          cases s
          simp
        rw [hbb] at CV
        obtain ⟨sB, hsB⟩ : ∃ s, s = objB ob := ⟨_, rfl⟩
        rw [← hsB] at CO CV
        clear hR4 hT4 hS hBr hz hLo hSole hOk hObS hkind hbytes hj hq hd hOk5 hAm hbm hrl hm hbb hsB
        go_wp2_with fail
        refine CB.out.mono ?_
        rintro e wz ⟨rfl, rfl⟩
        go_wp2_with fail
        refine CL.out.mono ?_
        rintro e wz ⟨rfl, rfl⟩
        go_wp2_with fail
        have HU := Lib.hid (Try.underlying48)
        refine wp_region_quiet_below (by kernel_rfl) (by kernel_rfl) ?_
        refine q_loadw hkL rfl 48 (.tmp 6) rfl rfl _ HU.out rfl HI.out ?_
        quiet_step ((go_at_call 13; (with_reducible exact Calls.regrown_of (CSh.out _ (below_regrown _ _ _)))))
        quiet_step (fail)
        refine q_loadw hkL rfl 48 (.tmp 6) rfl rfl _ HU.out rfl HI.out ?_
        quiet_step ((go_at_call 9; (with_reducible exact Calls.regrown_of (CE.out _ (below_regrown _ _ _)))))
        quiet_step (fail)
        quiet_step (fail)
        quiet_step (fail)
        quiet_step (fail)
        quiet_step (fail)
        quiet_step (fail)
        refine q_loadw hkL rfl 48 (.tmp 6) rfl rfl _ HU.out rfl HI.out ?_
        quiet_step ((go_at_call 14; (with_reducible exact Calls.regrown_of (CO.out _ (below_regrown _ _ _)))))
        quiet_step (fail)
        quiet_step (fail)
        quiet_step (fail)
        refine q_conv rfl 22 9 (.tmp 89) rfl (.slice A m c) rfl (.string sB) (fun w' hb => CV.out w' hb) ?_
        quiet_step (fail)
        quiet_step (fail)
        quiet_step (fail)
        refine q_done fun W6 hB6 => ?_
        have hB7 := below_tr hB5 hB6
        go_wp2_with fail
        go_ret
        exact ⟨rfl, hB7⟩
theorem flat_one (l : List UInt8) : l.flatMap (fun b => [bv b]) = l.map bv := by
  induction l with
  | nil => rfl
  | cons a l ih => rw [List.flatMap_cons, ih]; rfl
theorem bytes_of {w : World} {A : Option Addr} {n c m : Nat} (h : Ok Try.prog w (m + 3) 22 (Value.slice A n c).cells.toList) :
    ∃ bs : List UInt8, bs.length = n ∧ Sl w 1 (.slice A n c) n (bs.map bv) := by
  have hcs : Try.prog.cellsOf 5 = 1 := by kernel_rfl
  obtain ⟨v, m', xs, e1, hS, hm, hel⟩ := ok_slice Try.underlying22 h (by omega)
  rw [hcs] at hS hel
  have e2 : v = .slice A n c := by simp [Value.cells] at e1; exact e1.symm
  subst e2
  obtain ⟨rfl, _, _, hl, _⟩ := hS.parts
  obtain ⟨l, h1, h2, _⟩ := rows_of (s := 1) (fun b : UInt8 => [bv b]) (fun _ => True) _ xs hl (fun i hi => by
    obtain ⟨z0, e0, w0⟩ := ok_int Try.underlying5 (hel i hi)
    have b2 : 0 ≤ z0 ∧ z0 ≤ 255 := by
      simp [Lit.wf, IntKind.min, IntKind.max, IntKind.signed, IntKind.bits] at w0
      omega
    obtain ⟨y, rfl⟩ := Int.eq_ofNat_of_zero_le b2.1
    refine ⟨UInt8.ofNat y, ?_, trivial⟩
    rw [e0]
    have : (UInt8.ofNat y).toNat = y := by simp; omega
    simp [bv, this])
  refine ⟨l, h1, ?_⟩
  rw [h2] at hS
  rw [flat_one] at hS
  exact hS
theorem octetReads_any (HE : Says 9) (HSh : Says 13) (A : Option Addr) (n c : Nat) (w : World) (h : Mem.Ok Try.prog w 9 22 (Value.slice A n c).cells.toList) :
    Calls Try.prog 3 #[.slice A n c] w fun e w' => e = .returned (.bool true) ∧ Below w.heap.size w w' := by
  obtain ⟨bs, hx, hS⟩ := bytes_of (m := 6) h
  rcases Nat.lt_or_ge 2000 n with hn | hn
  · exact octetReads_long A n c hn w
  · subst hx
    exact octetReads_ok HE HSh A c bs hn w hS
end Go.Proofs.Ythdjfcfbmmmmcaa
