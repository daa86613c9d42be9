/-
  Spread: spread.Counts: each place, rising, with how many it has.; The walk of SpreadCounts; The walk of the statement SpreadCounts, at its arguments as they are read.
-/
import Derived.Test.YtkpklnalfomcbaaIter
import Derived.Test.YtkpklnalfomcbaaCSCts4
import Derived.Test.YtkpklnalfomcbaaCSCts6
import Derived.Test.YtkpklnalfomcbaaCSCts5
section
namespace Go.Proofs.Ytkpklnalfomcbaa
open Go.RowKit Go.Proofs.Mem
open Go.WideMaps (keyOf_string_mk)
set_option linter.unusedVariables false
set_option linter.unusedSimpArgs false
def cntC (f : ByteArray → Nat) (p : List UInt8) : List Value := [.string ⟨p.toArray⟩, .int .i64 (f ⟨p.toArray⟩)]
theorem info_cnt : (Try.prog.info? 71).map (fun i => (i.zero, i.size, i.bytes)) = some (some (.agg #[.string ⟨#[]⟩, .int .i64 0]), 2, 24) := by kernel_rfl
def CtI (f : ByteArray → Nat) (W3 : World) (l : List (List UInt8)) (j : Nat) (v : Value) (W : World) : Prop :=
  ∃ A c, v = .slice A j c ∧ W.ownsRow W3.heap.size 71 2 (.slice A j c) j ((l.take j).flatMap (cntC f)) ∧ Below W3.heap.size W3 W
set_option maxHeartbeats 4000000 in
set_option maxRecDepth 100000 in
theorem scounts_any (key : ByteArray) (skew : Int) (owner : ByteArray) (w : World) (A : Option Addr) (c : Nat) (l : List Ob) (hA : Sl w 47 (.slice A l.length c) l.length (l.flatMap Ob.cells)) (hok : ∀ x ∈ l, x.Ok w) (hu : (kys l).Nodup) (hn : l.length ≤ 1000) :
    Calls Try.prog 17 #[.agg #[.string key, .int .i64 skew], .string owner, .slice A l.length c, .slice A l.length c] w fun e w' => ∃ (v : Value) (ps : List (List UInt8)), e = .returned v ∧ ps.Pairwise (· < ·) ∧ (∀ p, p ∈ ps ↔ hasT key l l.length ⟨p.toArray⟩ = true) ∧ ps.length ≤ 2000 ∧ Sl w' 2 v ps.length (ps.flatMap (cntC (cntS key owner l))) ∧ Below w.heap.size w w' := by
  have hB1 := below_al w (.cells #[.string key, .int .i64 skew] 23)
  have k1 := Lib.hid (Bk.new w 23 #[.string key, .int .i64 skew])
  obtain ⟨W1, hW1⟩ : ∃ W1, W1 = w.alloc (.cells #[.string key, .int .i64 skew] 23) := ⟨_, rfl⟩
  have HW := Lib.hid hW1.symm
  rw [← hW1] at hB1 k1
  have CC := Lib.hid (counts_any key skew owner W1 A c l (hA.below hB1) (fun x hx => (hok x hx).below hB1) hu hn A c l (hA.below hB1) (fun x hx => (hok x hx).below hB1) hn)
  have HB := Lib.hid hB1
  clear hB1 hW1 hA hok hu
  go_enter Try.func17, Try.ntmps17
  go_wp2_with ((with_reducible refine at_load_ ?_); refine wpl_loadg k1.out rfl 23 (.tmp 4) rfl rfl _ Try.underlying23 rfl (by kernel_rfl) ?_)
  rw [HW.out]
  refine CC.out.mono ?_
  rintro e W2 ⟨mo, n, D, rfl, hM, hn2, hC, hmo, b2⟩
  have H2 := Lib.hid (below_tr HB.out b2)
  have hsz : Maps.size D ≤ 2000 := Nat.le_trans hM.size_le (by omega)
  have CK := Lib.hid (callsIn_wide.1 (Try.maps_Keys_36 (some mo) W2))
  have CS := Lib.hid (callsIn_wide.1 (Try.slices_Sorted_keys_35_36 mo n D asIs W2 hM (by unfold maxLen; omega) (by omega)))
  have HM := Lib.hid (And.intro hM (And.intro hC (And.intro hn2 hsz)))
  clear hM hC b2 hmo hn2 hsz
  go_wp2_with fail
  refine CK.out.mono ?_
  rintro e w' ⟨rfl, rfl⟩
  go_wp2_with fail
  refine CS.out.mono ?_
  rintro e W3 ⟨v, ss, rfl, hperm, hrow, hnil, hb⟩
  have hb23 := below_tr (below_al W2 (.cells #[.map (some mo)] 77)) hb
  obtain ⟨ps, hps⟩ : ∃ ps, ps = ss.mergeSort (fun x y => decide (x ≤ y)) := ⟨_, rfl⟩
  have hlen : ss.length = ps.length := by rw [hps, List.length_mergeSort]
  have hmem : ∀ x, x ∈ ps ↔ Maps.has D (.string x) = true := fun x => by
    rw [hps, List.mem_mergeSort, hperm.mem_iff]
    exact HM.out.1.mem_keys strKs Try.underlying9 x
  have hkle : ∀ x ∈ ps, x.length ≤ maxLen := fun x hx => by
    rw [hps, List.mem_mergeSort, hperm.mem_iff] at hx
    exact strKeys_le HM.out.1 Try.underlying9 x hx
  have hpw : ps.Pairwise (· < ·) := by
    have h1 : ps.Pairwise (fun x y => decide (x ≤ y) = true) := by
      rw [hps]
      exact List.pairwise_mergeSort (fun a b c h1 h2 => by simp at h1 h2 ⊢; exact List.le_trans h1 h2) (fun a b => by simp; exact List.le_total a b) ss
    have h2 : ps.Nodup := by
      rw [hps, List.Perm.nodup_iff (List.mergeSort_perm _ _), hperm.nodup_iff]
      exact HM.out.1.nodup_keys strKs Try.underlying9
    exact (h1.and h2).imp fun {a b} h => by
      rcases List.le_iff_lt_or_eq.1 (of_decide_eq_true h.1) with h3 | h3
      · exact h3
      · exact absurd h3 h.2
  have hle : ps.length ≤ 2000 := by
    have := HM.out.1.len_keys
    have h2 := hperm.length_eq
    have h3 := HM.out.2.2.2
    omega
  have hS := Sl.of_own hrow
  rw [← hps, hlen] at hS
  have HP := Lib.hid (And.intro hpw (And.intro hmem (And.intro hkle (And.intro hS (And.intro (HM.out.1.below hb23) (below_tr H2.out hb23))))))
  obtain ⟨A3, c3, rfl, hc3, hnn3, _⟩ := id hS
  have h0 : Hid (CtI (cntS key owner l) W3 ps 0 (.slice none 0 0) W3) := Lib.hid ⟨none, 0, rfl, World.ownsRow_nil _ _ _ _, Below.refl _ _⟩
  have hC1 := HM.out.2.1
  have HC1 := Lib.hid hC1
  clear hnil hrow hb hperm hps hlen hmem hkle hpw hS hb23 hC1 CK CS CC HB k1 HW
  go_wp2_with fail
  go_loopw [10, 22] (fun vo vi W => ∃ j : Nat, j ≤ ps.length ∧ vi = .int .i64 j ∧ Hid (CtI (cntS key owner l) W3 ps j vo W)) (fun _ vi _ => ps.length - (intOf vi).toNat)
  case atStart => exact ⟨0, Nat.zero_le _, rfl, h0⟩
  case round =>
    clear h0
    obtain ⟨j, hj, rfl, hJ⟩ := hrel
    obtain ⟨Ao, co, rfl, hown, hB⟩ := hJ.out
    clear hJ
    by_cases hlt : j < ps.length
    · obtain ⟨x, hx⟩ : ∃ x, ps[j]? = some x := ⟨_, List.getElem?_eq_getElem hlt⟩
      obtain ⟨ad, rfl, hadl, hc⟩ := (HP.out.2.2.2.1.below hB).cell1 (k := j) (u := .string ⟨x.toArray⟩) (by rw [List.getElem?_map, hx]; rfl)
      have hsl : x.length ≤ maxLen := HP.out.2.2.1 x (List.mem_of_getElem? hx)
      have hkey := keyOf_string_mk Try.underlying9 (s := ⟨x.toArray⟩) hsl
      have hm := HP.out.2.2.2.2.1.below hB
      have hv : valAt D (.string x) (.int .i64 0) = .int .i64 (cntS key owner l ⟨x.toArray⟩) := (HC1.out x).2
      obtain ⟨nx, hnx⟩ : ∃ n, n = cntS key owner l ⟨x.toArray⟩ := ⟨_, rfl⟩
      rw [← hnx] at hv
      have ho2 := hown.alloc (.cells #[.string ⟨x.toArray⟩, .int .i64 nx] 71)
      have HX := Lib.hid (And.intro hx (And.intro hnx (And.intro hown hB)))
      have hz := hB.size
      clear hx hnx hown hB hadl hsl
      go_wp2_with (first
        | (at_lookup; refine wpl_look rfl _ _ 77 rfl 9 3 strKs Try.underlying77 zeroIs mo n D rfl hm _ _ rfl hkey ?_; rw [hv])
        | (at_builtin; refine wpl_append rfl _ _ _ rfl W3.heap.size 71 _ 2 24 Try.underlying67 info_cnt rfl (by omega) (by omega) _ j _ rfl ho2 _ 1 [.string ⟨x.toArray⟩, .int .i64 nx] rfl (Sl.made wr #[.string ⟨x.toArray⟩, .int .i64 nx] 71 1 1 (Nat.le_refl _) rfl) (by intro u hu; simp at hu; rcases hu with rfl | rfl <;> rfl) (by omega) (by simp; omega) ?_; intro v' w6 hown6 hgrow6 _))
      have HE : Hid (CtI (cntS key owner l) W3 ps (j + 1) v' w6) := by
        obtain ⟨vA, vc, hve, _⟩ := id (Sl.of_own hown6)
        have hb6 := below_grown (below_tr HX.out.2.2.2 (below_al wr _)) ho2 hgrow6 (by simp; omega) (Nat.le_refl _)
        refine Lib.hid ⟨vA, vc, hve, ?_, hb6⟩
        rw [← hve]
        rw [List.take_add_one, HX.out.1, List.flatMap_append]
        show w6.ownsRow _ _ _ _ _ (_ ++ List.flatMap (cntC (cntS key owner l)) [x])
        rw [show List.flatMap (cntC (cntS key owner l)) [x] = [.string ⟨x.toArray⟩, .int .i64 nx] by rw [HX.out.2.1]; simp [cntC]]
        exact hown6
      clear hgrow6 hown6 ho2
      go_wp2_with fail
      exact ⟨⟨j + 1, by omega, by go_num, HE⟩, by simp [intOf]; omega⟩
    · have hjl : j = ps.length := by omega
      subst hjl
      have HE := Lib.hid (And.intro hown hB)
      clear hown hB
      go_wp2_with fail
      go_ret
      refine ⟨_, ps, rfl, HP.out.1, fun p => ?_, hle, ?_, below_tr HP.out.2.2.2.2.2 HE.out.2⟩
      · rw [HP.out.2.1, (HC1.out p).1]
      · have := Sl.of_own HE.out.1
        rw [List.take_length] at this
        exact this
end Go.Proofs.Ytkpklnalfomcbaa
end
section
namespace Go.Proofs.Ytkpklnalfomcbaa
open Go.RowKit Go.Proofs.Mem
open Go.WideMaps (keyOf_string_mk)
set_option linter.unusedVariables false
set_option linter.unusedSimpArgs false
def SeenM (S : List (List UInt8)) (D : DataW Value) : Prop := ∀ p : List UInt8, valAt D (.string p) (.bool false) = .bool (decide (p ∈ S))
theorem seen_nil : SeenM [] (.map []) := fun p => rfl
theorem seen_put {S : List (List UInt8)} {D : DataW Value} (hD : Maps.IsMap D) (H : SeenM S D) (p : List UInt8) : SeenM (S ++ [p]) (D.put (.string p) (.held (.bool true))) := fun q => by
  by_cases e : q = p
  · subst e
    rw [valAt_put_same hD (keyLit_string _)]
    simp
  · have hne : (.string q : Lit) ≠ .string p := fun h => by injection h with h; exact e h
    rw [valAt_put_other hne, H q]
    simp [e]
theorem zeroBs (w : World) : (zeroValue 4).run Try.prog w = .ok (.bool false) w := by kernel_rfl
def ScI (w W2 : World) (bv : Array Value) (mo : Nat) (S : List (List UInt8)) (j : Nat) (W : World) : Prop := ∃ D, Mp Try.prog W 9 mo j D ∧ SeenM S D ∧ Bk W w.heap.size 23 bv ∧ Below mo W2 W ∧ mo < W.heap.size
theorem PL_len_next {key : ByteArray} {l : List Ob} {i : Nat} {x : Ob} (hx : l[i]? = some x) : (PL key (l.take (i + 1))).length = (PL key (l.take i)).length + if (plc key x).isSome = true then 1 else 0 := by
  unfold PL
  rw [List.take_add_one, hx, List.filterMap_append, List.length_append]
  congr 1
  show (List.filterMap (plc key) [x]).length = _
  cases h : plc key x <;> simp [h]
theorem PL_len_le {key : ByteArray} {l : List Ob} {i : Nat} : (PL key (l.take i)).length ≤ i := by
  unfold PL
  refine Nat.le_trans (List.length_filterMap_le ..) ?_
  rw [List.length_take]
  omega
set_option maxHeartbeats 8000000 in
set_option maxRecDepth 100000 in
theorem spreadCounts_any (key : ByteArray) (skew : Int) (owner : ByteArray) (w : World) (A : Option Addr) (c : Nat) (l : List Ob) (hA : Sl w 47 (.slice A l.length c) l.length (l.flatMap Ob.cells)) (hok : ∀ x ∈ l, x.Ok w) (hlen : l.length ≤ maxLen) :
    Calls Try.prog 5 #[.agg #[.string key, .int .i64 skew], .string owner, .slice A l.length c] w fun e w' => e = .returned (.bool true) ∧ Below w.heap.size w w' := by
  have HU := Lib.hid (Try.underlying57)
  have HA := Lib.hid (And.intro hA hok)
  have hB1 := below_al w (.cells #[.string key, .int .i64 skew] 23)
  have k1 := Bk.new w 23 #[.string key, .int .i64 skew]
  obtain ⟨W1, hW1⟩ : ∃ W1, W1 = w.alloc (.cells #[.string key, .int .i64 skew] 23) := ⟨_, rfl⟩
  have HW := Lib.hid hW1.symm
  rw [← hW1] at hB1 k1
  have HB := Lib.hid (And.intro hB1 k1)
  have HLen := Lib.hid hlen
  clear hB1 k1 hW1 hA hok hlen
  go_enter Try.func5, Try.ntmps5
  go_wp2_with fail
  rw [HW.out]
  refine (lives33_any W1).mono ?_
  rintro e W1a ⟨rfl, b1⟩
  have H1 := Lib.hid (And.intro (below_tr HB.out.1 b1) (HB.out.2.below' b1))
  clear b1
  go_wp2_with fail
  refine (few17_any W1a A c l (HA.out.1.below H1.out.1) (fun x hx => (HA.out.2 x hx).below H1.out.1) HLen.out).mono ?_
  rintro e W1b ⟨bf, rfl, hbf, b1⟩
  have H2 := Lib.hid (And.intro (below_tr H1.out.1 b1) (H1.out.2.below' b1))
  clear b1 H1
  cases bf with
  | false =>
    clear hbf
    go_wp2_with fail
    refine (lives33_any W1b).mono ?_
    rintro e W1c ⟨rfl, b1⟩
    have HZ := Lib.hid (below_tr H2.out.1 b1)
    clear b1
    go_wp2_with fail
    go_ret
    exact ⟨rfl, HZ.out⟩
  | true =>
    obtain ⟨hn60, hu, _⟩ := hbf rfl
    have hn : l.length ≤ 60 := hn60
    have HUq := Lib.hid hu
    have CC := Lib.hid (scounts_any key skew owner W1b A c l (HA.out.1.below H2.out.1) (fun x hx => (HA.out.2 x hx).below H2.out.1) hu (by omega))
    have hk2 := Lib.hid H2.out.2
    clear hbf hn60 hu HLen
    go_wp2_with ((with_reducible refine at_load_ ?_); refine wpl_loadg hk2.out rfl 23 (.tmp 3) rfl rfl _ Try.underlying23 rfl (by kernel_rfl) ?_)
    refine CC.out.mono ?_
    rintro e W2 ⟨v, ps, rfl, hpw, hmem, hpl, hS, b2⟩
    have H3 := Lib.hid (And.intro (below_tr H2.out.1 b2) (And.intro (H2.out.2.below' b2) (And.intro hpw (And.intro hmem hS))))
    clear hpw hmem b2 CC hk2 H2
    obtain ⟨Av, cv, rfl, _⟩ := id hS
    clear hS
    have hmm := @run_makeMap Try.prog
    obtain ⟨mo, hmo⟩ : ∃ mo, mo = W2.heap.size := ⟨_, rfl⟩
    have h0 : Hid (ScI w W2 #[.string key, .int .i64 skew] mo (ps.take 0) 0 (W2.alloc (.map #[] 0))) := Lib.hid ⟨.map [], by rw [hmo]; exact Mp.made W2 Try.prog 9, seen_nil, H3.out.2.1.alloc _, by rw [hmo]; exact below_al W2 _, by rw [hmo]; simp⟩
    have HMo := Lib.hid hmo
    go_wp2_with fail
    rw [← hmo]
    clear hmm hmo
    obtain ⟨W3, hW3⟩ : ∃ W3, W3 = W2.alloc (.map #[] 0) := ⟨_, rfl⟩
    rw [← hW3] at h0 ⊢
    clear hW3
    obtain ⟨np, hnp⟩ : ∃ n, n = ps.length := ⟨_, rfl⟩
    have HNp := Lib.hid hnp
    rw [← hnp] at hpl ⊢
    clear hnp
    go_loopw [35] (fun vi W => ∃ j : Nat, j ≤ np ∧ vi = .int .i64 j ∧ Hid (ScI w W2 #[.string key, .int .i64 skew] mo (ps.take j) j W)) (fun vi _ => np - (intOf vi).toNat)
    case atStart => exact ⟨0, Nat.zero_le _, rfl, h0⟩
    case round =>
      clear h0
      obtain ⟨j, hj, rfl, hJ⟩ := hrel
      obtain ⟨D, hM, hSe, hkb, hB, hmo⟩ := hJ.out
      have hB2 : Below W2.heap.size W2 wr := by rw [← HMo.out]; exact hB
      clear hJ
      by_cases hlt : j < np
      · obtain ⟨b1, o1, hAv, hb1, hadd1, hcell⟩ := Sl.row' (s := 2) (f := cntC (cntS key owner l)) (fun _ => rfl) (by omega) (H3.out.2.2.2.2.below hB2) j (by rw [← HNp.out]; exact hlt)
        subst hAv
        obtain ⟨x, hx⟩ : ∃ x, x = ps[j]'(by rw [← HNp.out]; exact hlt) := ⟨_, rfl⟩
        have hxg : ps[j]? = some x := by rw [hx]; exact List.getElem?_eq_getElem _
        rw [← hx] at hcell
        obtain ⟨fx, hfx⟩ : ∃ n, n = cntS key owner l ⟨x.toArray⟩ := ⟨_, rfl⟩
        have r0 : wr.cell? ⟨b1, o1 + j * 2, none⟩ = some (.string ⟨x.toArray⟩) := hcell 0 _ rfl
        have r1 : wr.cell? ⟨b1, o1 + j * 2 + 1, none⟩ = some (.int .i64 fx) := by rw [hfx]; exact hcell 1 _ rfl
        have hxl : x.length ≤ maxLen := by
          have h1 := (H3.out.2.2.2.1 x).1 (List.mem_of_getElem? hxg)
          have h2 := hasT_all.1 h1
          unfold PL at h2
          obtain ⟨o, ho, hp⟩ := List.mem_filterMap.1 h2
          exact plc_wf (HA.out.2 o ho) hp
        have hkey := keyOf_string_mk Try.underlying9 (s := ⟨x.toArray⟩) hxl
        have d0 := hkb.cell 0
        have d1 := hkb.cell 1
        have hlc := lawC_eq (k := key) (w := owner) (p := ⟨x.toArray⟩) HUq.out
        rw [← hfx] at hlc
        obtain ⟨W4, hW4⟩ : ∃ W4, W4 = wr.alloc (.cells #[.string ⟨x.toArray⟩, .int .i64 fx] 71) := ⟨_, rfl⟩
        have HW4 := Lib.hid hW4.symm
        have kx : Bk W4 wr.heap.size 71 #[.string ⟨x.toArray⟩, .int .i64 fx] := by rw [hW4]; exact Bk.new wr _ _
        have b4 : Below wr.heap.size wr W4 := by rw [hW4]; exact below_al wr _
        have z1 := cell_regrown (kx.cell 0)
        have z2 := cell_regrown (kx.cell 1)
        have z3 := cell_regrown (keep_cell b4 d0)
        have z4 := cell_regrown (keep_cell b4 d1)
        have hb04 := below_tr H3.out.1 (below_tr hB2 b4)
        have CRc := Lib.hid (fun (w1 : World) (hb : Below W4.heap.size W4 w1) => (by
          have h := lcount_any key skew owner w1 A c l (HA.out.1.below (below_tr hb04 hb)) (fun x hx => (HA.out.2 x hx).below (below_tr hb04 hb)) (by omega) ⟨x.toArray⟩
          rwa [hlc] at h : Calls Try.prog 15 #[.agg #[.string key, .int .i64 skew], .string owner, .slice A l.length c, .string ⟨x.toArray⟩] w1 fun e w' => e = .returned (.int .i64 fx) ∧ Below w1.heap.size w1 w'))
        have HX := Lib.hid (And.intro hxg (And.intro hM (And.intro hSe (And.intro hkb (And.intro hB (And.intro hmo (And.intro b4 kx)))))))
        have hE1 : ((fx : Int) != fx) = false := by simp
        have HR1 := Lib.hid (And.intro r0 r1)
        clear hcell hx hfx hxl hlc hxg hM hSe hkb hB hmo b4 kx d0 d1 hW4 hb04 hB2 hadd1 hb1
        by_cases hj0 : j = 0
        · subst hj0
          simp only [Nat.zero_mul, Nat.add_zero] at r0 r1
          go_wp2_with fail
          rw [HW4.out]
          clear r0 r1
          refine wp_region_quiet_below (by kernel_rfl) (by kernel_rfl) ?_
          repeat (go_big_quiet_step ((go_at_call 15; (with_reducible exact Calls.regrown_of (CRc.out _ (below_regrown _ _ _))))))
          refine wpQuiet_nil ?_
          rintro _ ⟨rp, rfl⟩
          have hBz := below_regrown W4 rp.d rp.os
          generalize «Sort».grow (redrawn W4 rp.d) rp.os = W5 at hBz ⊢
          clear z1 z2 z3 z4 CRc
          have hM5 := (HX.out.2.1.below HX.out.2.2.2.2.2.2.1).below hBz
          have c0 := (HX.out.2.2.2.2.2.2.2.below' hBz).cell 0
          have hjm : 0 < maxLen := by unfold maxLen; omega
          have hk5 := (HX.out.2.2.2.1.below' HX.out.2.2.2.2.2.2.1).below' hBz
          have hb5 := (HX.out.2.2.2.2.1.trans (HX.out.2.2.2.2.2.2.1.mono (Nat.le_of_lt HX.out.2.2.2.2.2.1))).trans (hBz.mono (Nat.le_trans (Nat.le_of_lt HX.out.2.2.2.2.2.1) HX.out.2.2.2.2.2.2.1.size))
          have hz5 : mo < W5.heap.size := Nat.lt_of_lt_of_le HX.out.2.2.2.2.2.1 (Nat.le_trans HX.out.2.2.2.2.2.2.1.size hBz.size)
          have hwm : w.heap.size < mo := by rw [HMo.out]; exact H3.out.2.1.lt
          have HQ5 := Lib.hid (And.intro hk5 (And.intro hb5 (And.intro hz5 hwm)))
          clear hk5 hb5 hz5 hwm hBz
          go_wp2_with (at_mapUpdate; refine wpl_store_map rfl _ _ _ 69 rfl 9 4 strKs Try.underlying69 mo 0 D rfl hM5 hjm _ (.bool true) _ rfl rfl hkey ?_; intro W6 hM6 hg6 hs6; have HE : Hid (ScI w W2 #[.string key, .int .i64 skew] mo (ps.take (0 + 1)) (0 + 1) W6) := Lib.hid ⟨_, hM6, (by rw [List.take_add_one, HX.out.1]; exact seen_put (Mp.isMap HX.out.2.1) HX.out.2.2.1 x), HQ5.out.1.grown hg6 (fun e => by injection e with e; have := HQ5.out.2.2.2; omega), below_map HQ5.out.2.1 hg6 (Nat.le_of_lt HQ5.out.2.2.1) (Nat.le_refl _), by rw [hs6]; exact HQ5.out.2.2.1⟩; clear hM6 hg6 hs6)
          exact ⟨⟨0 + 1, by omega, by go_num, HE⟩, by simp [intOf]; omega⟩
        · obtain ⟨k, rfl⟩ : ∃ k, j = k + 1 := ⟨j - 1, by omega⟩
          have hy : ∃ y, ps[k]? = some y := ⟨_, List.getElem?_eq_getElem (by rw [← HNp.out]; omega)⟩
          obtain ⟨y, hyg⟩ := hy
          have hlty : Op.bytesLess y x = true := by
            rw [bytesLess_eq]
            have h1 := List.pairwise_iff_getElem.1 H3.out.2.2.1
            obtain ⟨hk1, hk2⟩ := List.getElem?_eq_some_iff.1 hyg
            obtain ⟨hj1, hj2⟩ := List.getElem?_eq_some_iff.1 HX.out.1
            have h2 := h1 k (k + 1) hk1 hj1 (by omega)
            rw [hk2, hj2] at h2
            exact decide_eq_true h2
          have hB2 : Below W2.heap.size W2 wr := by rw [← HMo.out]; exact HX.out.2.2.2.2.1
          obtain ⟨b2, o2, hAv2, _, _, hcell2⟩ := Sl.row' (s := 2) (f := cntC (cntS key owner l)) (fun _ => rfl) (by omega) (H3.out.2.2.2.2.below hB2) k (by rw [← HNp.out]; omega)
          injection hAv2 with hAv2
          injection hAv2 with e1 e2
          subst e1
          subst e2
          have hye : ps[k]'(by rw [← HNp.out]; omega) = y := (List.getElem?_eq_some_iff.1 hyg).2
          rw [hye] at hcell2
          have q0 : wr.cell? ⟨b1, o1 + k * 2, none⟩ = some (.string ⟨y.toArray⟩) := hcell2 0 _ rfl
          have z5 := cell_regrown (keep_cell HX.out.2.2.2.2.2.2.1 q0)
          have hkz : (k : Int) < np := by omega
          have hwp : IntKind.i64.wrap (k : Int) = (k : Int) := by rw [IntKind.wrap_i64]; omega
          have hk0 : (0 : Int) < (k : Int) + 1 := by omega
          clear hcell2 hye hyg hB2 q0
          go_wp2_with fail
          rw [HW4.out]
          clear r0 r1
          refine wp_region_quiet_below (by kernel_rfl) (by kernel_rfl) ?_
          repeat (go_big_quiet_step ((go_at_call 15; (with_reducible exact Calls.regrown_of (CRc.out _ (below_regrown _ _ _))))))
          refine wpQuiet_nil ?_
          rintro _ ⟨rp, rfl⟩
          have hBz := below_regrown W4 rp.d rp.os
          generalize «Sort».grow (redrawn W4 rp.d) rp.os = W5 at hBz ⊢
          clear z1 z2 z3 z4 CRc
          have hM5 := (HX.out.2.1.below HX.out.2.2.2.2.2.2.1).below hBz
          have c0 := (HX.out.2.2.2.2.2.2.2.below' hBz).cell 0
          have hjm : (k + 1) < maxLen := by unfold maxLen; omega
          have hk5 := (HX.out.2.2.2.1.below' HX.out.2.2.2.2.2.2.1).below' hBz
          have hb5 := (HX.out.2.2.2.2.1.trans (HX.out.2.2.2.2.2.2.1.mono (Nat.le_of_lt HX.out.2.2.2.2.2.1))).trans (hBz.mono (Nat.le_trans (Nat.le_of_lt HX.out.2.2.2.2.2.1) HX.out.2.2.2.2.2.2.1.size))
          have hz5 : mo < W5.heap.size := Nat.lt_of_lt_of_le HX.out.2.2.2.2.2.1 (Nat.le_trans HX.out.2.2.2.2.2.2.1.size hBz.size)
          have hwm : w.heap.size < mo := by rw [HMo.out]; exact H3.out.2.1.lt
          have HQ5 := Lib.hid (And.intro hk5 (And.intro hb5 (And.intro hz5 hwm)))
          clear hk5 hb5 hz5 hwm hBz
          go_wp2_with (at_mapUpdate; refine wpl_store_map rfl _ _ _ 69 rfl 9 4 strKs Try.underlying69 mo (k + 1) D rfl hM5 hjm _ (.bool true) _ rfl rfl hkey ?_; intro W6 hM6 hg6 hs6; have HE : Hid (ScI w W2 #[.string key, .int .i64 skew] mo (ps.take ((k + 1) + 1)) ((k + 1) + 1) W6) := Lib.hid ⟨_, hM6, (by rw [List.take_add_one, HX.out.1]; exact seen_put (Mp.isMap HX.out.2.1) HX.out.2.2.1 x), HQ5.out.1.grown hg6 (fun e => by injection e with e; have := HQ5.out.2.2.2; omega), below_map HQ5.out.2.1 hg6 (Nat.le_of_lt HQ5.out.2.2.1) (Nat.le_refl _), by rw [hs6]; exact HQ5.out.2.2.1⟩; clear hM6 hg6 hs6)
          exact ⟨⟨(k + 1) + 1, by omega, by go_num, HE⟩, by simp [intOf]; omega⟩
      · have hjl : j = np := by omega
        subst hjl
        rw [HNp.out, List.take_length] at hSe
        have h1 : Hid (ScI w W2 #[.string key, .int .i64 skew] mo ps j wr) := Lib.hid ⟨D, hM, hSe, hkb, hB, hmo⟩
        have hgen : ∀ (i : Nat) (x : Ob) (q : ByteArray), l[i]? = some x → plc key x = some q → q.data.toList ∈ ps := fun i x q hx hq => by
          rw [H3.out.2.2.2.1]
          refine hasT_all.2 ?_
          unfold PL
          exact List.mem_filterMap.2 ⟨x, List.mem_of_getElem? hx, hq⟩
        have HG := Lib.hid hgen
        clear hM hSe hkb hB hmo hB2 hlt hgen
        go_wp2_with fail
        go_loopw [11, 70] (fun vn vi W => ∃ i : Nat, i ≤ l.length ∧ vi = .int .i64 i ∧ vn = .int .i64 ((PL key (l.take i)).length : Nat) ∧ Hid (ScI w W2 #[.string key, .int .i64 skew] mo ps j W)) (fun _ vi _ => l.length - (intOf vi).toNat)
        case atStart => exact ⟨0, Nat.zero_le _, rfl, rfl, h1⟩
        case round =>
          clear h1
          obtain ⟨i, hi, rfl, rfl, hJ⟩ := hrel
          have hple := PL_len_le (key := key) (l := l) (i := i)
          by_cases hlt2 : i < l.length
          · obtain ⟨D, hM, hSe, hkb, hB, hmo⟩ := hJ.out
            have hB2 : Below W2.heap.size W2 wr := by rw [← HMo.out]; exact hB
            obtain ⟨b1, o1, x, L, W4, rfl, hxg, hC⟩ := c47_of HA.out.1 HA.out.2 (below_tr H3.out.1 hB2) hlt2
            have HR := Lib.hid hC
            have hK4 := Lib.hid (hkb.below' hC.b)
            have HJ2 := Lib.hid (And.intro (hM.below hC.b) (And.intro hSe (And.intro (hB.trans (hC.b.mono (Nat.le_of_lt hmo))) (And.intro (Nat.lt_of_lt_of_le hmo hC.b.size) (And.intro hxg (PL_len_next (key := key) hxg))))))
            clear hC hM hSe hkb hB hmo hB2 hJ hxg
            obtain ⟨ni, hni⟩ : ∃ n, n = (PL key (l.take i)).length := ⟨_, rfl⟩
            rw [← hni] at HJ2 hple ⊢
            clear hni
            go_wp2_with (first | ((with_reducible refine at_load_ ?_); refine wpl_loadat4 HR.out.r rfl 57 (.tmp 72) rfl rfl _ HU.out rfl (by simpa using info47 HR.out.is) ?_; rw [HR.out.l]) | ((with_reducible refine at_alloc_ ?_); refine wpl_allocg rfl (run_alloc47 rfl _) ?_) | ((with_reducible refine at_store_ ?_); refine wpl_storeg HR.out.kz HR.out.zz rfl rfl 57 (.tmp 13) (.tmp 73) rfl rfl rfl (info47 HR.out.is) HR.out.is.2 ?_; rw [HR.out.w2]) | ((with_reducible refine at_load_ ?_); refine wpl_loadg hK4.out rfl 23 (.tmp 3) rfl rfl _ Try.underlying23 rfl (by kernel_rfl) ?_) | ((with_reducible refine at_load_ ?_); refine wpl_loadg HR.out.k rfl 57 (.tmp 13) rfl rfl _ HU.out rfl (info47 HR.out.is) ?_))
            rw [HR.out.e]
            refine (lplace_any key skew x W4 HR.out.ok).mono ?_
            rintro e W5 ⟨rfl, b5⟩
            have hsz5 := HJ2.out.2.2.2.1
            have HE : Hid (ScI w W2 #[.string key, .int .i64 skew] mo ps j W5) := Lib.hid ⟨D, HJ2.out.1.below b5, HJ2.out.2.1, hK4.out.below' b5, HJ2.out.2.2.1.trans (b5.mono (Nat.le_of_lt hsz5)), Nat.lt_of_lt_of_le hsz5 b5.size⟩
            have hM5 := HJ2.out.1.below b5
            clear b5 hsz5
            cases hq : plc key x with
            | none =>
              simp only [Option.getD_none, Option.isSome_none]
              have HN := Lib.hid (show (PL key (l.take (i + 1))).length = ni by rw [HJ2.out.2.2.2.2.2, hq]; simp)
              clear hq hM5
              go_wp2_with fail
              exact ⟨⟨i + 1, by omega, by go_num, by rw [HN.out], HE⟩, by simp [intOf]; omega⟩
            | some q =>
              simp only [Option.getD_some, Option.isSome_some]
              have HN := Lib.hid (show (PL key (l.take (i + 1))).length = ni + 1 by rw [HJ2.out.2.2.2.2.2, hq]; simp)
              have hv : valAt D (.string q.data.toList) (.bool false) = .bool true := by
                have h := HJ2.out.2.1 q.data.toList
                rw [h, decide_eq_true (HG.out i x q HJ2.out.2.2.2.2.1 hq)]
              have hkey := keyOf_string_mk Try.underlying9 (plc_wf HR.out.ok hq)
              clear hq
              go_wp2_with (at_lookup; refine wpl_look rfl _ _ 69 rfl 9 4 strKs Try.underlying69 zeroBs mo j D rfl hM5 _ _ rfl hkey ?_; rw [hv])
              exact ⟨⟨i + 1, by omega, by go_num, by rw [HN.out]; go_num, HE⟩, by simp [intOf]; omega⟩
          · have hil : i = l.length := by omega
            subst hil
            rw [List.take_length] at hple ⊢
            obtain ⟨D, hM, hSe, hkb, hB, hmo⟩ := hJ.out
            have hB2 : Below W2.heap.size W2 wr := by rw [← HMo.out]; exact hB
            have hw := below_tr H3.out.1 hB2
            have CE := Lib.hid (lends_any key skew owner wr A c l (HA.out.1.below hw) (fun x hx => (HA.out.2 x hx).below hw) HUq.out (by omega))
            have CS := Lib.hid (fun (w1 : World) (hb : Below wr.heap.size wr w1) => skew_any key skew owner w1 A c l (HA.out.1.below (below_tr hw hb)) (fun x hx => (HA.out.2 x hx).below (below_tr hw hb)) HUq.out (by omega))
            have hK := Lib.hid hkb
            have HWw := Lib.hid hw
            have hpe : PL key l = [] ↔ j = 0 := by
              rw [HNp.out, List.length_eq_zero_iff]
              constructor
              · intro h
                rcases ps with _ | ⟨p, ps⟩
                · rfl
                · have h1 := hasT_all.1 ((H3.out.2.2.2.1 p).1 (List.mem_cons_self ..))
                  rw [h] at h1
                  cases h1
              · intro h
                rcases hPl : PL key l with _ | ⟨p, pl⟩
                · rfl
                · have h1 := (H3.out.2.2.2.1 p.data.toList).2 (hasT_all.2 (show p ∈ PL key l by rw [hPl]; exact List.mem_cons_self ..))
                  rw [h] at h1
                  cases h1
            obtain ⟨n0, hn0⟩ : ∃ n, n = (PL key l).length := ⟨_, rfl⟩
            have hnz : n0 = 0 ↔ j = 0 := by rw [hn0, List.length_eq_zero_iff]; exact hpe
            obtain ⟨met, hmet⟩ : ∃ m, m = decide (PL key l ≠ []) := ⟨_, rfl⟩
            have hmz : met = decide (0 < j) := by
              rw [hmet]
              refine decide_eq_decide.2 ?_
              rw [Ne, hpe]
              omega
            rw [← hmet] at CE
            rw [← hn0] at hple ⊢
            obtain ⟨lo, hlo⟩ : ∃ n, n = lowS key owner l := ⟨_, rfl⟩
            obtain ⟨hi', hhi⟩ : ∃ n, n = highS key owner l := ⟨_, rfl⟩
            have hl1 := low_le (k := key) (w := owner) (l := l)
            have hl2 := high_le (k := key) (w := owner) (l := l)
            rw [← hlo] at CE CS hl1
            rw [← hhi] at CE CS hl2
            clear hM hSe hkb hB hmo hB2 hJ hpe hn0 hmet hlo hhi hw
            go_wp2_with (first | ((with_reducible refine at_load_ ?_); refine wpl_loadg hK.out rfl 23 (.tmp 3) rfl rfl _ Try.underlying23 rfl (by kernel_rfl) ?_))
            refine CE.out.mono ?_
            rintro e W5 ⟨rfl, b5⟩
            have hK6 := Lib.hid (hK.out.below' b5)
            have HW6 := Lib.hid (below_tr HWw.out b5)
            have CS2 := Lib.hid (CS.out W5 b5)
            clear CS CE b5 hK
            by_cases hj0 : j = 0
            · have hn00 : n0 = 0 := hnz.2 hj0
              have hm0 : met = false := by rw [hmz, hj0]; rfl
              subst hm0
              subst hn00
              have hjj : ((j : Int) > 0) = False := by simp [hj0]
              subst hj0
              clear hnz hmz hjj
              go_wp2_with (first | ((with_reducible refine at_load_ ?_); refine wpl_loadg hK6.out rfl 23 (.tmp 3) rfl rfl _ Try.underlying23 rfl (by kernel_rfl) ?_))
              refine CS2.out.mono ?_
              rintro e W6 ⟨rfl, b6⟩
              have HZ := Lib.hid (below_tr HW6.out b6)
              clear b6
              go_wp2_with fail
              go_ret
              exact ⟨rfl, HZ.out⟩
            · have hn00 : 0 < n0 := by omega
              have hm0 : met = true := by rw [hmz]; exact decide_eq_true (by omega)
              subst hm0
              have hjz : (0 : Int) < j := by omega
              have hnz2 : (0 : Int) < n0 := by omega
              clear hnz hmz
              go_wp2_with (first | ((with_reducible refine at_load_ ?_); refine wpl_loadg hK6.out rfl 23 (.tmp 3) rfl rfl _ Try.underlying23 rfl (by kernel_rfl) ?_))
              refine CS2.out.mono ?_
              rintro e W6 ⟨rfl, b6⟩
              have HZ := Lib.hid (below_tr HW6.out b6)
              clear b6
              go_wp2_with fail
              go_ret
              exact ⟨rfl, HZ.out⟩
end Go.Proofs.Ytkpklnalfomcbaa
end
section
namespace Go.Proofs.Ytkpklnalfomcbaa
open Go.RowKit Go.Proofs.Mem
set_option linter.unusedVariables false
theorem con_of {w : World} {cs : Array Value} (h : Mem.Ok Try.prog w 9 23 cs.toList) : ∃ (k : ByteArray) (v : Int), cs = #[.string k, .int .i64 v] ∧ wfs k := by
  obtain ⟨hl, hf⟩ := ok_struct (n := 8) Try.underlying23 h
  obtain ⟨z0, e0, w0⟩ := str_of (n := 7) (ok_field hf 0 9 0 1 (by kernel_rfl) (by kernel_rfl))
  obtain ⟨z1, e1, w1⟩ := int_of (n := 7) (ok_field hf 1 3 1 1 (by kernel_rfl) (by kernel_rfl))
  have e : cs.toList = [.string z0, .int .i64 z1] := chain e0 (chain e1 (chain_end (hl.trans (by kernel_rfl))))
  refine ⟨z0, z1, ?_, w0⟩
  rw [← Array.toArray_toList (xs := cs), e]
theorem spreadCounts_walk (cs : Array Value) (owner : ByteArray) (A : Option Addr) (n c : Nat) (w : World) (hb : Mem.Ok Try.prog w 9 23 cs.toList) (hs : owner.size ≤ maxLen) (h : Mem.Ok Try.prog w 9 24 (Value.slice A n c).cells.toList) :
    Calls Try.prog 5 #[.agg cs, .string owner, .slice A n c] w fun e w' => e = .returned (.bool true) ∧ Below w.heap.size w w' := by
  obtain ⟨l, e1, m1, s1, o1⟩ := obs_of (m := 2) h
  obtain ⟨k, v, rfl, _⟩ := con_of hb
  subst e1
  exact spreadCounts_any k v owner w A c l s1 o1 m1
end Go.Proofs.Ytkpklnalfomcbaa
end
