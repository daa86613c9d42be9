/-
  The walk of trimtablaw02.QuantParses. (printed by wip/gen_qpp.py)
-/
import Derived.Test.YtilmmmokobhnfaaDoorQt
import Derived.Test.YtilmmmokobhnfaaDoorBitw
import Derived.Deep.RegionHeld3
namespace Go.Proofs.YtilmmmokobhnfaaDoor
open Go.RowKit Go.Proofs.Mem Go.Proofs.Qn Go.Proofs.Bit
set_option linter.unusedVariables false
set_option linter.unusedSimpArgs false
theorem len64q {n : Nat} (h : n < 18446744073709551616) : (bitsOf n).length ≤ 64 := length_bitsOf_le (by omega)
theorem dec_len (l : List UInt8) (hd : ∀ c ∈ l, isDig c = true) (h : l.length ≤ 60) : (bitsOf (decV l)).length ≤ 200 := by
  apply length_bitsOf_le
  have h1 := decV_lt l hd
  have h2 : 10 ^ l.length ≤ 10 ^ 60 := Nat.pow_le_pow_right (by omega) h
  have h3 : (10 : Nat) ^ 60 < 2 ^ 200 := by decide
  omega
/-- One digit more: the three products and sums, in whatever order. -/
theorem digit_sub (c : UInt8) (h : isDig c = true) : ((c.toNat - 48 : Nat) : Int) = (c.toNat : Int) - 48 := by
  simp only [isDig, Bool.and_eq_true, decide_eq_true_eq] at h
  omega
set_option maxHeartbeats 4000000 in
set_option maxRecDepth 100000 in
theorem parses_ok (s : ByteArray) (hs : s.size ≤ 60) (w : World) (hT : Tab w) : Calls Tryd.prog 3 #[.string s] w fun e w' => e = .returned (.bool true) ∧ Below w.heap.size w w' := by
  have CL := Lib.hid (fun (u : World) => (lives02_any w hT))
  have hls : s.data.toList.length = s.size := rfl
  have HLS := Lib.hid hls
  have hsi : (s.size : Int) ≤ 60 := by omega
  clear hls hT
  go_enter Tryd.func3, Tryd.ntmps3
  go_wp2_with fail
  refine (CL.out w).mono ?_
  rintro e w1 ⟨rfl, hb1⟩
  go_wp2_with fail
  refine (of_any 0 _ (by omega)).mono ?_
  rintro e w2 ⟨v0, rfl, k0, hb2⟩
  have hB2 := below_tr hb1 hb2
  go_wp2_with fail
  go_loopw [3, 4] (fun iv vv wr => ∃ k : Nat, k ≤ s.size ∧ iv = .int .i64 k ∧ Hid (∀ x ∈ s.data.toList.take k, isDig x = true) ∧ Bts wr vv (bitsOf (decV (s.data.toList.take k))) ∧ Below w.heap.size w wr) (fun iv vv wr => s.size - (intOf iv).toNat)
  case atStart => exact ⟨0, Nat.zero_le _, rfl, Lib.hid (by simp), k0, hB2⟩
  case round =>
    obtain ⟨k, hk, rfl, hd, hv, hB⟩ := hrel
    by_cases hlt : k < s.size
    · have hget : s.data.toList[k]? = some s[k] := by
        rw [List.getElem?_eq_getElem (by rw [HLS.out]; exact hlt)]
        rfl
      by_cases hc : isDig s[k] = true
      · have hd2 := Lib.hid (digits_step hget hc hd.out)
        have hsub := digit_sub s[k] hc
        have htk : s.data.toList.take (k + 1) = s.data.toList.take k ++ [s[k]] := by
          rw [List.take_add_one, hget]; rfl
        have hdv := Lib.hid (show decV (s.data.toList.take (k + 1)) = decV (s.data.toList.take k) * 10 + (s[k].toNat - 48) by rw [htk, decV_snoc])
        have hlen := Lib.hid (dec_len _ hd.out (by rw [List.length_take, HLS.out]; omega))
        simp only [isDig, Bool.and_eq_true, decide_eq_true_eq] at hc
        have b1 : (48 : Int) ≤ (s[k].toNat : Int) := by omega
        have b2 : (s[k].toNat : Int) ≤ 57 := by omega
        have hdl := Lib.hid (show s[k].toNat - 48 < 18446744073709551616 by omega)
        have C10 : Hid (∀ w1, Calls Tryd.prog 8 #[.int .u64 10] w1 (NewBts w1 (bitsOf 10))) := Lib.hid (fun w1 => of_any 10 w1 (by omega))
        have CDg := fun w1 => of_any (s[k].toNat - 48) w1 hdl.out
        rw [hsub] at CDg
        have CD := Lib.hid CDg
        generalize hV : decV (s.data.toList.take k) = V at hv hdv hlen
        have HV := Lib.hid hV
        obtain ⟨A4, c4, rfl, hc4⟩ := hv.form
        have CM := Lib.hid (fun (w1 : World) (u : Value) (hb : Below wr.heap.size wr w1) (hu : Bts w1 u (bitsOf 10)) => mul_any (bitsOf V) (bitsOf 10) _ u w1 (by have := hlen.out; omega) (by have := len64q (n := 10) (by omega); omega) (bin_bitsOf _) (bin_bitsOf _) (hv.below hb) hu)
        have CA := Lib.hid (fun (w1 : World) (u v : Value) (hu : Bts w1 u (bitsOf (val (bitsOf V) * val (bitsOf 10)))) (hv2 : Bts w1 v (bitsOf (s[k].toNat - 48))) => add_any (bitsOf (val (bitsOf V) * val (bitsOf 10))) (bitsOf (s[k].toNat - 48)) u v w1 (by
          rw [val_bitsOf, val_bitsOf]
          have h1 := hlen.out
          have := length_mul (x := V) (y := 10) (n := 200) (m := 4) (by
            have := val_lt (bin_bitsOf V)
            rw [val_bitsOf] at this
            exact Nat.lt_of_lt_of_le this (Nat.pow_le_pow_right (by omega) h1)) (by omega)
          omega) (by have := len64q hdl.out; omega) (bin_bitsOf _) (bin_bitsOf _) hu hv2)
        have hB0 : Below wr.heap.size wr wr.drew := (Below.refl _ _).drew
        have hvH := Lib.hid hv
        have hw8 : IntKind.u8.wrap ((s[k].toNat : Int) - 48) = (s[k].toNat : Int) - 48 := by simp [IntKind.wrap, IntKind.signed, IntKind.bits]; omega
        have hw64 : IntKind.u64.wrap ((s[k].toNat : Int) - 48) = (s[k].toNat : Int) - 48 := by simp [IntKind.wrap, IntKind.signed, IntKind.bits]; omega
        clear hget hd hc hsub htk CDg hV hv
        go_wp2_with fail
        go_region_held3 (fun w' => Below wr.heap.size wr w' ∧ True)
          (first | (exact ⟨hB0, trivial⟩) | (with_reducible exact ⟨below_tr (by with_reducible assumption : Below wr.heap.size wr _ ∧ True).1 b36, trivial⟩) | (with_reducible exact ⟨below_tr (by with_reducible assumption : Below wr.heap.size wr _ ∧ True).1 b43, trivial⟩) | (with_reducible exact ⟨below_tr (by with_reducible assumption : Below wr.heap.size wr _ ∧ True).1 b37, trivial⟩) | (with_reducible exact ⟨below_tr (by with_reducible assumption : Below wr.heap.size wr _ ∧ True).1 b44, trivial⟩) | (with_reducible assumption))
          (first
            | (go_at_call_of 8 (Value.int .u64 10); (with_reducible refine (C10.out _).mono ?_); rintro e w36 ⟨v36, rfl, k36, b36⟩; obtain ⟨A36, c36, rfl, _⟩ := k36.form)
            | (go_at_call 8; (with_reducible refine (CD.out _).mono ?_); rintro e w43 ⟨v43, rfl, k43, b43⟩; obtain ⟨A43, c43, rfl, _⟩ := k43.form)
            | (go_at_call 10; (with_reducible refine (CM.out _ _ (by with_reducible assumption : Below wr.heap.size wr _ ∧ True).1 k36).mono ?_); rintro e w37 ⟨v37, rfl, k37, b37⟩; obtain ⟨A37, c37, rfl, _⟩ := k37.form)
            | (go_at_call 10; (with_reducible refine (CM.out _ _ (by with_reducible assumption : Below wr.heap.size wr _ ∧ True).1 (k36.below b43)).mono ?_); rintro e w37 ⟨v37, rfl, k37, b37⟩; obtain ⟨A37, c37, rfl, _⟩ := k37.form)
            | (go_at_call 9; (with_reducible refine (CA.out _ _ _ (k37.below b43) k43).mono ?_); rintro e w44 ⟨v44, rfl, k44, b44⟩; obtain ⟨A44, c44, rfl, _⟩ := (Bts.of_own k44).form)
            | (go_at_call 9; (with_reducible refine (CA.out _ _ _ k37 (k43.below b37)).mono ?_); rintro e w44 ⟨v44, rfl, k44, b44⟩; obtain ⟨A44, c44, rfl, _⟩ := (Bts.of_own k44).form)
            | (go_at_call 9; (with_reducible refine (CA.out _ _ _ k37 ((k43.below b36).below b37)).mono ?_); rintro e w44 ⟨v44, rfl, k44, b44⟩; obtain ⟨A44, c44, rfl, _⟩ := (Bts.of_own k44).form))
        all_goals
          have hBF := (by with_reducible assumption : Below wr.heap.size wr _ ∧ True).1
          have hfin : Bts w44 (.slice A44 (bitsOf (val (bitsOf (val (bitsOf V) * val (bitsOf 10))) + val (bitsOf (s[k].toNat - 48)))).length c44) (bitsOf (decV (s.data.toList.take (k + 1)))) := by
            rw [hdv.out, show V * 10 + (s[k].toNat - 48) = val (bitsOf (val (bitsOf V) * val (bitsOf 10))) + val (bitsOf (s[k].toNat - 48)) by simp only [val_bitsOf]]
            exact Bts.of_own k44
          have HF := Lib.hid hfin
          clear hfin hw8 hw64 CM CA k36 k37 k43 k44
          go_wp2_with fail
          exact ⟨⟨k + 1, hlt, by go_num, hd2, HF.out, below_tr hB hBF⟩, by simp [intOf]; omega⟩
      · have hc0 := hc
        have hc : isDig s[k] = false := by simpa using hc0
        have hkn : Hid (ndig s.data.toList = k) := Lib.hid (ndig_at (by rw [HLS.out]; exact hk) hd.out (fun c e => by rw [hget] at e; rw [← Option.some.inj e]; exact hc))
        have hcc : s[k].toNat < 48 ∨ (48 ≤ s[k].toNat ∧ 57 < s[k].toNat) := by
          simp only [isDig, Bool.and_eq_false_iff, decide_eq_false_iff_not] at hc
          omega
        clear hget hc hd
        clear hc0
        rcases hcc with hcc | ⟨hc1, hc2⟩
        · have b1 : (s[k].toNat : Int) < 48 := by omega
          have hlenk := Lib.hid (dec_len (s.data.toList.take k) (by have := digs s.data.toList; rw [hkn.out] at this; exact this) (by rw [List.length_take, HLS.out]; omega))
          have hvv := Lib.hid hv
          obtain ⟨A4, c4, rfl, hc4⟩ := hv.form
          clear hv
          obtain ⟨sc, hsc0⟩ : ∃ sc, sc = scaleN (s.data.toList.drop k) := ⟨_, rfl⟩
          have hsle := Lib.hid (show sc ≤ 1073741824000 by rw [hsc0]; exact scaleN_le _)
          have CS0 := fun w1 => lscale_any (s.extract k s.size) w1
          rw [drop_extract, ← hsc0] at CS0
          have CS := Lib.hid CS0
          have hsc := Lib.hid hsc0.symm
          have CPQ := Lib.hid (fun w1 => qparse_any s (by omega) w1)
          clear hsc0 CS0
          rcases Nat.eq_zero_or_pos k with hk0 | hk0
          · have hpr := Lib.hid (parseR_form hkn.out hsc.out (.inl hk0))
            have hkz : ((k : Int) == 0) = true := by rw [hk0]; rfl
            clear hk0
            have CP2 := CPQ.out wr
            rw [hpr.out] at CP2
            have CP3 := Lib.hid CP2
            clear CP2
            go_wp2_with fail
            refine (CS.out _).mono ?_
            rintro e w3 ⟨rfl, rfl⟩
            go_wp2_with fail
            refine (CP3.out).mono ?_
            rintro e w4 ⟨rfl, hb4⟩
            go_wp2_with fail
            go_ret
            exact ⟨rfl, below_tr hB hb4⟩
          · have hkz : ((k : Int) == 0) = false := by simp; omega
            rcases Nat.eq_zero_or_pos sc with hz | hz
            · have hpr := Lib.hid (parseR_form hkn.out hsc.out (.inr (.inl hz)))
              have hzz : ((sc : Int) == 0) = true := by rw [hz]; rfl
              clear hz
              have CP2 := CPQ.out wr
              rw [hpr.out] at CP2
              have CP3 := Lib.hid CP2
              clear CP2
              go_wp2_with fail
              refine (CS.out _).mono ?_
              rintro e w3 ⟨rfl, rfl⟩
              go_wp2_with fail
              refine (CP3.out).mono ?_
              rintro e w4 ⟨rfl, hb4⟩
              go_wp2_with fail
              go_ret
              exact ⟨rfl, below_tr hB hb4⟩
            · have hzz : ((sc : Int) == 0) = false := by simp; omega
              have h0s : 0 < s.size := by omega
              have hget0 : s.data.toList[0]? = some s[0] := by
                rw [List.getElem?_eq_getElem (by rw [HLS.out]; exact h0s)]
                rfl
              rcases Nat.lt_or_ge 1 k with h1 | h1
              rotate_left
              · have hno : Hid (¬ (k = 0 ∨ sc = 0 ∨ (1 < k ∧ s.data.toList[0]? = some 48))) := Lib.hid (by rintro (h | h | ⟨h, _⟩) <;> omega)
                have h1i : (k : Int) ≤ 1 := by omega
                clear hget0 hz
                rcases Nat.lt_or_ge 9007199254740992 (decV (s.data.toList.take k) * sc) with hbig | hbig
                · have hpr := parseR_over hkn.out hsc.out hno.out hbig
                  have CP2 := CPQ.out wr
                  rw [hpr] at CP2
                  have CP3 := Lib.hid CP2
                  have hN := Lib.hid hbig
                  clear CP2 hpr hbig
                  go_wp2_with fail
                  refine (CS.out _).mono ?_
                  rintro e w3 ⟨rfl, rfl⟩
                  go_wp2_with fail
                  refine (CP3.out).mono ?_
                  rintro e w4 ⟨rfl, hb4⟩
                  have hB4 := below_tr hB hb4
                  go_wp2_with fail
                  refine (of_any sc _ (by have := hsle.out; omega)).mono ?_
                  rintro e w5 ⟨v5, rfl, k5, hb5⟩
                  obtain ⟨A5, c5, rfl, _⟩ := k5.form
                  have CM := mul_any (bitsOf (decV (s.data.toList.take k))) (bitsOf sc) _ _ w5 (by have := hlenk.out; omega) (by have := len64q (n := sc) (by have := hsle.out; omega); omega) (bin_bitsOf _) (bin_bitsOf _) ((hvv.out.below hb4).below hb5) k5
                  rw [val_bitsOf, val_bitsOf] at CM
                  obtain ⟨N, hNN⟩ : ∃ N, N = decV (s.data.toList.take k) * sc := ⟨_, rfl⟩
                  rw [← hNN] at CM
                  have hN2 := hN.out
                  rw [← hNN] at hN2
                  have hNb := Lib.hid hN2
                  have HNN := Lib.hid hNN
                  have HCM := Lib.hid CM
                  clear CM hN2 hNN
                  have hlN := Lib.hid (show (bitsOf N).length ≤ 300 by
                    rw [HNN.out]
                    have h1 := hlenk.out
                    exact Nat.le_trans (length_mul (n := 200) (m := 64) (by
                      have := val_lt (bin_bitsOf (decV (s.data.toList.take k)))
                      rw [val_bitsOf] at this
                      exact Nat.lt_of_lt_of_le this (Nat.pow_le_pow_right (by omega) h1)) (by have := hsle.out; omega)) (by omega))
                  go_wp2_with fail
                  refine HCM.out.mono ?_
                  rintro e w6 ⟨v6, rfl, k6, hb6⟩
                  obtain ⟨A6, c6, rfl, _⟩ := k6.form
                  have hB6 := below_tr (below_tr hB4 hb5) hb6
                  clear k5 hb4 hb5 hb6 HCM hB4
                  go_wp2_with fail
                  refine (of_any 9007199254740992 _ (by omega)).mono ?_
                  rintro e w7 ⟨v7, rfl, k7, hb7⟩
                  obtain ⟨A7, c7, rfl, _⟩ := k7.form
                  have CC := cmp_any (bitsOf N) (bitsOf 9007199254740992) _ _ w7 (by have := hlN.out; omega) (by have := len64q (n := 9007199254740992) (by omega); omega) (bin_bitsOf _) (bin_bitsOf _) (k6.below hb7) k7
                  rw [val_bitsOf, val_bitsOf] at CC
                  rw [show cmpN N 9007199254740992 = 1 by unfold cmpN; rw [if_pos hNb.out]] at CC
                  have HCC := Lib.hid CC
                  have k67 := Lib.hid (k6.below hb7)
                  have hB7 := below_tr hB6 hb7
                  clear CC k6 k7 hb7
                  go_wp2_with fail
                  refine HCC.out.mono ?_
                  rintro e w8 ⟨rfl, rfl⟩
                  go_wp2_with fail
                  go_ret
                  exact ⟨rfl, hB7⟩
                · have hpr := parseR_ok hkn.out hsc.out hno.out hbig
                  have CP2 := CPQ.out wr
                  rw [hpr] at CP2
                  obtain ⟨R, hR⟩ : ∃ R, R = decV (s.data.toList.take k) * sc := ⟨_, rfl⟩
                  rw [← hR] at CP2
                  have CP3 := Lib.hid CP2
                  have HR := Lib.hid hR
                  have hRi : (R : Int) ≤ 9007199254740992 := by omega
                  have hN := Lib.hid hbig
                  clear CP2 hpr hbig hR
                  go_wp2_with fail
                  refine (CS.out _).mono ?_
                  rintro e w3 ⟨rfl, rfl⟩
                  go_wp2_with fail
                  refine (CP3.out).mono ?_
                  rintro e w4 ⟨rfl, hb4⟩
                  have hB4 := below_tr hB hb4
                  go_wp2_with fail
                  refine (of_any sc _ (by have := hsle.out; omega)).mono ?_
                  rintro e w5 ⟨v5, rfl, k5, hb5⟩
                  obtain ⟨A5, c5, rfl, _⟩ := k5.form
                  have CM := mul_any (bitsOf (decV (s.data.toList.take k))) (bitsOf sc) _ _ w5 (by have := hlenk.out; omega) (by have := len64q (n := sc) (by have := hsle.out; omega); omega) (bin_bitsOf _) (bin_bitsOf _) ((hvv.out.below hb4).below hb5) k5
                  rw [val_bitsOf, val_bitsOf] at CM
                  obtain ⟨N, hNN⟩ : ∃ N, N = decV (s.data.toList.take k) * sc := ⟨_, rfl⟩
                  rw [← hNN] at CM
                  have hN2 := hN.out
                  rw [← hNN] at hN2
                  have hNb := Lib.hid hN2
                  have HNN := Lib.hid hNN
                  have HCM := Lib.hid CM
                  clear CM hN2 hNN
                  have hlN := Lib.hid (show (bitsOf N).length ≤ 300 by
                    rw [HNN.out]
                    have h1 := hlenk.out
                    exact Nat.le_trans (length_mul (n := 200) (m := 64) (by
                      have := val_lt (bin_bitsOf (decV (s.data.toList.take k)))
                      rw [val_bitsOf] at this
                      exact Nat.lt_of_lt_of_le this (Nat.pow_le_pow_right (by omega) h1)) (by have := hsle.out; omega)) (by omega))
                  go_wp2_with fail
                  refine HCM.out.mono ?_
                  rintro e w6 ⟨v6, rfl, k6, hb6⟩
                  obtain ⟨A6, c6, rfl, _⟩ := k6.form
                  have hB6 := below_tr (below_tr hB4 hb5) hb6
                  clear k5 hb4 hb5 hb6 HCM hB4
                  go_wp2_with fail
                  refine (of_any 9007199254740992 _ (by omega)).mono ?_
                  rintro e w7 ⟨v7, rfl, k7, hb7⟩
                  obtain ⟨A7, c7, rfl, _⟩ := k7.form
                  have CC := cmp_any (bitsOf N) (bitsOf 9007199254740992) _ _ w7 (by have := hlN.out; omega) (by have := len64q (n := 9007199254740992) (by omega); omega) (bin_bitsOf _) (bin_bitsOf _) (k6.below hb7) k7
                  rw [val_bitsOf, val_bitsOf] at CC
                  obtain ⟨cz, hcz, hczn⟩ : ∃ cz : Int, cz = cmpN N 9007199254740992 ∧ cz ≤ 0 := ⟨_, rfl, by unfold cmpN; rw [if_neg (by have := hNb.out; omega)]; split <;> omega⟩
                  rw [← hcz] at CC
                  clear hcz
                  have HCC := Lib.hid CC
                  have k67 := Lib.hid (k6.below hb7)
                  have hB7 := below_tr hB6 hb7
                  clear CC k6 k7 hb7
                  go_wp2_with fail
                  refine HCC.out.mono ?_
                  rintro e w8 ⟨rfl, rfl⟩
                  go_wp2_with fail
                  have CNu := number_any (bitsOf N) _ w7 (by have := hlN.out; omega) (bin_bitsOf _) k67.out
                  rw [val_bitsOf, Nat.mod_eq_of_lt (by have := hNb.out; omega), show N = R from HNN.out.trans HR.out.symm] at CNu
                  obtain ⟨bb, hbb⟩ : ∃ bb, bb = decide (((bitsOf R).length : Int) ≤ 64) := ⟨_, rfl⟩
                  rw [← hbb] at CNu
                  clear hbb
                  have HNU := Lib.hid CNu
                  clear CNu
                  refine Calls.mono (by rw [show N = R from HNN.out.trans HR.out.symm]; exact HNU.out) ?_
                  rintro e w9 ⟨rfl, rfl⟩
                  go_wp2_with fail
                  go_ret
                  exact ⟨rfl, hB7⟩
              · have h1k : (1 : Int) < (k : Int) := by omega
                by_cases h48 : s[0] = 48
                · have hpr := Lib.hid (parseR_form hkn.out hsc.out (.inr (.inr ⟨by omega, by rw [hget0, h48]⟩)))
                  have q : ((s[0].toNat : Int) == 48) = true := by rw [h48]; rfl
                  clear hget0 hz h48
                  have CP2 := CPQ.out wr
                  rw [hpr.out] at CP2
                  have CP3 := Lib.hid CP2
                  clear CP2
                  go_wp2_with fail
                  refine (CS.out _).mono ?_
                  rintro e w3 ⟨rfl, rfl⟩
                  go_wp2_with fail
                  refine (CP3.out).mono ?_
                  rintro e w4 ⟨rfl, hb4⟩
                  go_wp2_with fail
                  go_ret
                  exact ⟨rfl, below_tr hB hb4⟩
                · have hno : Hid (¬ (k = 0 ∨ sc = 0 ∨ (1 < k ∧ s.data.toList[0]? = some 48))) := Lib.hid (by
                    rintro (h | h | ⟨_, h⟩)
                    · omega
                    · omega
                    · rw [hget0] at h; exact h48 (Option.some.inj h))
                  have q : ((s[0].toNat : Int) == 48) = false := by
                    have : s[0].toNat ≠ 48 := fun e => h48 (UInt8.toNat_inj.1 (by simpa using e))
                    simp
                    omega
                  clear hget0 hz h48
                  rcases Nat.lt_or_ge 9007199254740992 (decV (s.data.toList.take k) * sc) with hbig | hbig
                  · have hpr := parseR_over hkn.out hsc.out hno.out hbig
                    have CP2 := CPQ.out wr
                    rw [hpr] at CP2
                    have CP3 := Lib.hid CP2
                    have hN := Lib.hid hbig
                    clear CP2 hpr hbig
                    go_wp2_with fail
                    refine (CS.out _).mono ?_
                    rintro e w3 ⟨rfl, rfl⟩
                    go_wp2_with fail
                    refine (CP3.out).mono ?_
                    rintro e w4 ⟨rfl, hb4⟩
                    have hB4 := below_tr hB hb4
                    go_wp2_with fail
                    refine (of_any sc _ (by have := hsle.out; omega)).mono ?_
                    rintro e w5 ⟨v5, rfl, k5, hb5⟩
                    obtain ⟨A5, c5, rfl, _⟩ := k5.form
                    have CM := mul_any (bitsOf (decV (s.data.toList.take k))) (bitsOf sc) _ _ w5 (by have := hlenk.out; omega) (by have := len64q (n := sc) (by have := hsle.out; omega); omega) (bin_bitsOf _) (bin_bitsOf _) ((hvv.out.below hb4).below hb5) k5
                    rw [val_bitsOf, val_bitsOf] at CM
                    obtain ⟨N, hNN⟩ : ∃ N, N = decV (s.data.toList.take k) * sc := ⟨_, rfl⟩
                    rw [← hNN] at CM
                    have hN2 := hN.out
                    rw [← hNN] at hN2
                    have hNb := Lib.hid hN2
                    have HNN := Lib.hid hNN
                    have HCM := Lib.hid CM
                    clear CM hN2 hNN
                    have hlN := Lib.hid (show (bitsOf N).length ≤ 300 by
                      rw [HNN.out]
                      have h1 := hlenk.out
                      exact Nat.le_trans (length_mul (n := 200) (m := 64) (by
                        have := val_lt (bin_bitsOf (decV (s.data.toList.take k)))
                        rw [val_bitsOf] at this
                        exact Nat.lt_of_lt_of_le this (Nat.pow_le_pow_right (by omega) h1)) (by have := hsle.out; omega)) (by omega))
                    go_wp2_with fail
                    refine HCM.out.mono ?_
                    rintro e w6 ⟨v6, rfl, k6, hb6⟩
                    obtain ⟨A6, c6, rfl, _⟩ := k6.form
                    have hB6 := below_tr (below_tr hB4 hb5) hb6
                    clear k5 hb4 hb5 hb6 HCM hB4
                    go_wp2_with fail
                    refine (of_any 9007199254740992 _ (by omega)).mono ?_
                    rintro e w7 ⟨v7, rfl, k7, hb7⟩
                    obtain ⟨A7, c7, rfl, _⟩ := k7.form
                    have CC := cmp_any (bitsOf N) (bitsOf 9007199254740992) _ _ w7 (by have := hlN.out; omega) (by have := len64q (n := 9007199254740992) (by omega); omega) (bin_bitsOf _) (bin_bitsOf _) (k6.below hb7) k7
                    rw [val_bitsOf, val_bitsOf] at CC
                    rw [show cmpN N 9007199254740992 = 1 by unfold cmpN; rw [if_pos hNb.out]] at CC
                    have HCC := Lib.hid CC
                    have k67 := Lib.hid (k6.below hb7)
                    have hB7 := below_tr hB6 hb7
                    clear CC k6 k7 hb7
                    go_wp2_with fail
                    refine HCC.out.mono ?_
                    rintro e w8 ⟨rfl, rfl⟩
                    go_wp2_with fail
                    go_ret
                    exact ⟨rfl, hB7⟩
                  · have hpr := parseR_ok hkn.out hsc.out hno.out hbig
                    have CP2 := CPQ.out wr
                    rw [hpr] at CP2
                    obtain ⟨R, hR⟩ : ∃ R, R = decV (s.data.toList.take k) * sc := ⟨_, rfl⟩
                    rw [← hR] at CP2
                    have CP3 := Lib.hid CP2
                    have HR := Lib.hid hR
                    have hRi : (R : Int) ≤ 9007199254740992 := by omega
                    have hN := Lib.hid hbig
                    clear CP2 hpr hbig hR
                    go_wp2_with fail
                    refine (CS.out _).mono ?_
                    rintro e w3 ⟨rfl, rfl⟩
                    go_wp2_with fail
                    refine (CP3.out).mono ?_
                    rintro e w4 ⟨rfl, hb4⟩
                    have hB4 := below_tr hB hb4
                    go_wp2_with fail
                    refine (of_any sc _ (by have := hsle.out; omega)).mono ?_
                    rintro e w5 ⟨v5, rfl, k5, hb5⟩
                    obtain ⟨A5, c5, rfl, _⟩ := k5.form
                    have CM := mul_any (bitsOf (decV (s.data.toList.take k))) (bitsOf sc) _ _ w5 (by have := hlenk.out; omega) (by have := len64q (n := sc) (by have := hsle.out; omega); omega) (bin_bitsOf _) (bin_bitsOf _) ((hvv.out.below hb4).below hb5) k5
                    rw [val_bitsOf, val_bitsOf] at CM
                    obtain ⟨N, hNN⟩ : ∃ N, N = decV (s.data.toList.take k) * sc := ⟨_, rfl⟩
                    rw [← hNN] at CM
                    have hN2 := hN.out
                    rw [← hNN] at hN2
                    have hNb := Lib.hid hN2
                    have HNN := Lib.hid hNN
                    have HCM := Lib.hid CM
                    clear CM hN2 hNN
                    have hlN := Lib.hid (show (bitsOf N).length ≤ 300 by
                      rw [HNN.out]
                      have h1 := hlenk.out
                      exact Nat.le_trans (length_mul (n := 200) (m := 64) (by
                        have := val_lt (bin_bitsOf (decV (s.data.toList.take k)))
                        rw [val_bitsOf] at this
                        exact Nat.lt_of_lt_of_le this (Nat.pow_le_pow_right (by omega) h1)) (by have := hsle.out; omega)) (by omega))
                    go_wp2_with fail
                    refine HCM.out.mono ?_
                    rintro e w6 ⟨v6, rfl, k6, hb6⟩
                    obtain ⟨A6, c6, rfl, _⟩ := k6.form
                    have hB6 := below_tr (below_tr hB4 hb5) hb6
                    clear k5 hb4 hb5 hb6 HCM hB4
                    go_wp2_with fail
                    refine (of_any 9007199254740992 _ (by omega)).mono ?_
                    rintro e w7 ⟨v7, rfl, k7, hb7⟩
                    obtain ⟨A7, c7, rfl, _⟩ := k7.form
                    have CC := cmp_any (bitsOf N) (bitsOf 9007199254740992) _ _ w7 (by have := hlN.out; omega) (by have := len64q (n := 9007199254740992) (by omega); omega) (bin_bitsOf _) (bin_bitsOf _) (k6.below hb7) k7
                    rw [val_bitsOf, val_bitsOf] at CC
                    obtain ⟨cz, hcz, hczn⟩ : ∃ cz : Int, cz = cmpN N 9007199254740992 ∧ cz ≤ 0 := ⟨_, rfl, by unfold cmpN; rw [if_neg (by have := hNb.out; omega)]; split <;> omega⟩
                    rw [← hcz] at CC
                    clear hcz
                    have HCC := Lib.hid CC
                    have k67 := Lib.hid (k6.below hb7)
                    have hB7 := below_tr hB6 hb7
                    clear CC k6 k7 hb7
                    go_wp2_with fail
                    refine HCC.out.mono ?_
                    rintro e w8 ⟨rfl, rfl⟩
                    go_wp2_with fail
                    have CNu := number_any (bitsOf N) _ w7 (by have := hlN.out; omega) (bin_bitsOf _) k67.out
                    rw [val_bitsOf, Nat.mod_eq_of_lt (by have := hNb.out; omega), show N = R from HNN.out.trans HR.out.symm] at CNu
                    obtain ⟨bb, hbb⟩ : ∃ bb, bb = decide (((bitsOf R).length : Int) ≤ 64) := ⟨_, rfl⟩
                    rw [← hbb] at CNu
                    clear hbb
                    have HNU := Lib.hid CNu
                    clear CNu
                    refine Calls.mono (by rw [show N = R from HNN.out.trans HR.out.symm]; exact HNU.out) ?_
                    rintro e w9 ⟨rfl, rfl⟩
                    go_wp2_with fail
                    go_ret
                    exact ⟨rfl, hB7⟩
        · have b1 : (48 : Int) ≤ (s[k].toNat : Int) := by omega
          have b2 : (57 : Int) < (s[k].toNat : Int) := by omega
          have hlenk := Lib.hid (dec_len (s.data.toList.take k) (by have := digs s.data.toList; rw [hkn.out] at this; exact this) (by rw [List.length_take, HLS.out]; omega))
          have hvv := Lib.hid hv
          obtain ⟨A4, c4, rfl, hc4⟩ := hv.form
          clear hv
          obtain ⟨sc, hsc0⟩ : ∃ sc, sc = scaleN (s.data.toList.drop k) := ⟨_, rfl⟩
          have hsle := Lib.hid (show sc ≤ 1073741824000 by rw [hsc0]; exact scaleN_le _)
          have CS0 := fun w1 => lscale_any (s.extract k s.size) w1
          rw [drop_extract, ← hsc0] at CS0
          have CS := Lib.hid CS0
          have hsc := Lib.hid hsc0.symm
          have CPQ := Lib.hid (fun w1 => qparse_any s (by omega) w1)
          clear hsc0 CS0
          rcases Nat.eq_zero_or_pos k with hk0 | hk0
          · have hpr := Lib.hid (parseR_form hkn.out hsc.out (.inl hk0))
            have hkz : ((k : Int) == 0) = true := by rw [hk0]; rfl
            clear hk0
            have CP2 := CPQ.out wr
            rw [hpr.out] at CP2
            have CP3 := Lib.hid CP2
            clear CP2
            go_wp2_with fail
            refine (CS.out _).mono ?_
            rintro e w3 ⟨rfl, rfl⟩
            go_wp2_with fail
            refine (CP3.out).mono ?_
            rintro e w4 ⟨rfl, hb4⟩
            go_wp2_with fail
            go_ret
            exact ⟨rfl, below_tr hB hb4⟩
          · have hkz : ((k : Int) == 0) = false := by simp; omega
            rcases Nat.eq_zero_or_pos sc with hz | hz
            · have hpr := Lib.hid (parseR_form hkn.out hsc.out (.inr (.inl hz)))
              have hzz : ((sc : Int) == 0) = true := by rw [hz]; rfl
              clear hz
              have CP2 := CPQ.out wr
              rw [hpr.out] at CP2
              have CP3 := Lib.hid CP2
              clear CP2
              go_wp2_with fail
              refine (CS.out _).mono ?_
              rintro e w3 ⟨rfl, rfl⟩
              go_wp2_with fail
              refine (CP3.out).mono ?_
              rintro e w4 ⟨rfl, hb4⟩
              go_wp2_with fail
              go_ret
              exact ⟨rfl, below_tr hB hb4⟩
            · have hzz : ((sc : Int) == 0) = false := by simp; omega
              have h0s : 0 < s.size := by omega
              have hget0 : s.data.toList[0]? = some s[0] := by
                rw [List.getElem?_eq_getElem (by rw [HLS.out]; exact h0s)]
                rfl
              rcases Nat.lt_or_ge 1 k with h1 | h1
              rotate_left
              · have hno : Hid (¬ (k = 0 ∨ sc = 0 ∨ (1 < k ∧ s.data.toList[0]? = some 48))) := Lib.hid (by rintro (h | h | ⟨h, _⟩) <;> omega)
                have h1i : (k : Int) ≤ 1 := by omega
                clear hget0 hz
                rcases Nat.lt_or_ge 9007199254740992 (decV (s.data.toList.take k) * sc) with hbig | hbig
                · have hpr := parseR_over hkn.out hsc.out hno.out hbig
                  have CP2 := CPQ.out wr
                  rw [hpr] at CP2
                  have CP3 := Lib.hid CP2
                  have hN := Lib.hid hbig
                  clear CP2 hpr hbig
                  go_wp2_with fail
                  refine (CS.out _).mono ?_
                  rintro e w3 ⟨rfl, rfl⟩
                  go_wp2_with fail
                  refine (CP3.out).mono ?_
                  rintro e w4 ⟨rfl, hb4⟩
                  have hB4 := below_tr hB hb4
                  go_wp2_with fail
                  refine (of_any sc _ (by have := hsle.out; omega)).mono ?_
                  rintro e w5 ⟨v5, rfl, k5, hb5⟩
                  obtain ⟨A5, c5, rfl, _⟩ := k5.form
                  have CM := mul_any (bitsOf (decV (s.data.toList.take k))) (bitsOf sc) _ _ w5 (by have := hlenk.out; omega) (by have := len64q (n := sc) (by have := hsle.out; omega); omega) (bin_bitsOf _) (bin_bitsOf _) ((hvv.out.below hb4).below hb5) k5
                  rw [val_bitsOf, val_bitsOf] at CM
                  obtain ⟨N, hNN⟩ : ∃ N, N = decV (s.data.toList.take k) * sc := ⟨_, rfl⟩
                  rw [← hNN] at CM
                  have hN2 := hN.out
                  rw [← hNN] at hN2
                  have hNb := Lib.hid hN2
                  have HNN := Lib.hid hNN
                  have HCM := Lib.hid CM
                  clear CM hN2 hNN
                  have hlN := Lib.hid (show (bitsOf N).length ≤ 300 by
                    rw [HNN.out]
                    have h1 := hlenk.out
                    exact Nat.le_trans (length_mul (n := 200) (m := 64) (by
                      have := val_lt (bin_bitsOf (decV (s.data.toList.take k)))
                      rw [val_bitsOf] at this
                      exact Nat.lt_of_lt_of_le this (Nat.pow_le_pow_right (by omega) h1)) (by have := hsle.out; omega)) (by omega))
                  go_wp2_with fail
                  refine HCM.out.mono ?_
                  rintro e w6 ⟨v6, rfl, k6, hb6⟩
                  obtain ⟨A6, c6, rfl, _⟩ := k6.form
                  have hB6 := below_tr (below_tr hB4 hb5) hb6
                  clear k5 hb4 hb5 hb6 HCM hB4
                  go_wp2_with fail
                  refine (of_any 9007199254740992 _ (by omega)).mono ?_
                  rintro e w7 ⟨v7, rfl, k7, hb7⟩
                  obtain ⟨A7, c7, rfl, _⟩ := k7.form
                  have CC := cmp_any (bitsOf N) (bitsOf 9007199254740992) _ _ w7 (by have := hlN.out; omega) (by have := len64q (n := 9007199254740992) (by omega); omega) (bin_bitsOf _) (bin_bitsOf _) (k6.below hb7) k7
                  rw [val_bitsOf, val_bitsOf] at CC
                  rw [show cmpN N 9007199254740992 = 1 by unfold cmpN; rw [if_pos hNb.out]] at CC
                  have HCC := Lib.hid CC
                  have k67 := Lib.hid (k6.below hb7)
                  have hB7 := below_tr hB6 hb7
                  clear CC k6 k7 hb7
                  go_wp2_with fail
                  refine HCC.out.mono ?_
                  rintro e w8 ⟨rfl, rfl⟩
                  go_wp2_with fail
                  go_ret
                  exact ⟨rfl, hB7⟩
                · have hpr := parseR_ok hkn.out hsc.out hno.out hbig
                  have CP2 := CPQ.out wr
                  rw [hpr] at CP2
                  obtain ⟨R, hR⟩ : ∃ R, R = decV (s.data.toList.take k) * sc := ⟨_, rfl⟩
                  rw [← hR] at CP2
                  have CP3 := Lib.hid CP2
                  have HR := Lib.hid hR
                  have hRi : (R : Int) ≤ 9007199254740992 := by omega
                  have hN := Lib.hid hbig
                  clear CP2 hpr hbig hR
                  go_wp2_with fail
                  refine (CS.out _).mono ?_
                  rintro e w3 ⟨rfl, rfl⟩
                  go_wp2_with fail
                  refine (CP3.out).mono ?_
                  rintro e w4 ⟨rfl, hb4⟩
                  have hB4 := below_tr hB hb4
                  go_wp2_with fail
                  refine (of_any sc _ (by have := hsle.out; omega)).mono ?_
                  rintro e w5 ⟨v5, rfl, k5, hb5⟩
                  obtain ⟨A5, c5, rfl, _⟩ := k5.form
                  have CM := mul_any (bitsOf (decV (s.data.toList.take k))) (bitsOf sc) _ _ w5 (by have := hlenk.out; omega) (by have := len64q (n := sc) (by have := hsle.out; omega); omega) (bin_bitsOf _) (bin_bitsOf _) ((hvv.out.below hb4).below hb5) k5
                  rw [val_bitsOf, val_bitsOf] at CM
                  obtain ⟨N, hNN⟩ : ∃ N, N = decV (s.data.toList.take k) * sc := ⟨_, rfl⟩
                  rw [← hNN] at CM
                  have hN2 := hN.out
                  rw [← hNN] at hN2
                  have hNb := Lib.hid hN2
                  have HNN := Lib.hid hNN
                  have HCM := Lib.hid CM
                  clear CM hN2 hNN
                  have hlN := Lib.hid (show (bitsOf N).length ≤ 300 by
                    rw [HNN.out]
                    have h1 := hlenk.out
                    exact Nat.le_trans (length_mul (n := 200) (m := 64) (by
                      have := val_lt (bin_bitsOf (decV (s.data.toList.take k)))
                      rw [val_bitsOf] at this
                      exact Nat.lt_of_lt_of_le this (Nat.pow_le_pow_right (by omega) h1)) (by have := hsle.out; omega)) (by omega))
                  go_wp2_with fail
                  refine HCM.out.mono ?_
                  rintro e w6 ⟨v6, rfl, k6, hb6⟩
                  obtain ⟨A6, c6, rfl, _⟩ := k6.form
                  have hB6 := below_tr (below_tr hB4 hb5) hb6
                  clear k5 hb4 hb5 hb6 HCM hB4
                  go_wp2_with fail
                  refine (of_any 9007199254740992 _ (by omega)).mono ?_
                  rintro e w7 ⟨v7, rfl, k7, hb7⟩
                  obtain ⟨A7, c7, rfl, _⟩ := k7.form
                  have CC := cmp_any (bitsOf N) (bitsOf 9007199254740992) _ _ w7 (by have := hlN.out; omega) (by have := len64q (n := 9007199254740992) (by omega); omega) (bin_bitsOf _) (bin_bitsOf _) (k6.below hb7) k7
                  rw [val_bitsOf, val_bitsOf] at CC
                  obtain ⟨cz, hcz, hczn⟩ : ∃ cz : Int, cz = cmpN N 9007199254740992 ∧ cz ≤ 0 := ⟨_, rfl, by unfold cmpN; rw [if_neg (by have := hNb.out; omega)]; split <;> omega⟩
                  rw [← hcz] at CC
                  clear hcz
                  have HCC := Lib.hid CC
                  have k67 := Lib.hid (k6.below hb7)
                  have hB7 := below_tr hB6 hb7
                  clear CC k6 k7 hb7
                  go_wp2_with fail
                  refine HCC.out.mono ?_
                  rintro e w8 ⟨rfl, rfl⟩
                  go_wp2_with fail
                  have CNu := number_any (bitsOf N) _ w7 (by have := hlN.out; omega) (bin_bitsOf _) k67.out
                  rw [val_bitsOf, Nat.mod_eq_of_lt (by have := hNb.out; omega), show N = R from HNN.out.trans HR.out.symm] at CNu
                  obtain ⟨bb, hbb⟩ : ∃ bb, bb = decide (((bitsOf R).length : Int) ≤ 64) := ⟨_, rfl⟩
                  rw [← hbb] at CNu
                  clear hbb
                  have HNU := Lib.hid CNu
                  clear CNu
                  refine Calls.mono (by rw [show N = R from HNN.out.trans HR.out.symm]; exact HNU.out) ?_
                  rintro e w9 ⟨rfl, rfl⟩
                  go_wp2_with fail
                  go_ret
                  exact ⟨rfl, hB7⟩
              · have h1k : (1 : Int) < (k : Int) := by omega
                by_cases h48 : s[0] = 48
                · have hpr := Lib.hid (parseR_form hkn.out hsc.out (.inr (.inr ⟨by omega, by rw [hget0, h48]⟩)))
                  have q : ((s[0].toNat : Int) == 48) = true := by rw [h48]; rfl
                  clear hget0 hz h48
                  have CP2 := CPQ.out wr
                  rw [hpr.out] at CP2
                  have CP3 := Lib.hid CP2
                  clear CP2
                  go_wp2_with fail
                  refine (CS.out _).mono ?_
                  rintro e w3 ⟨rfl, rfl⟩
                  go_wp2_with fail
                  refine (CP3.out).mono ?_
                  rintro e w4 ⟨rfl, hb4⟩
                  go_wp2_with fail
                  go_ret
                  exact ⟨rfl, below_tr hB hb4⟩
                · have hno : Hid (¬ (k = 0 ∨ sc = 0 ∨ (1 < k ∧ s.data.toList[0]? = some 48))) := Lib.hid (by
                    rintro (h | h | ⟨_, h⟩)
                    · omega
                    · omega
                    · rw [hget0] at h; exact h48 (Option.some.inj h))
                  have q : ((s[0].toNat : Int) == 48) = false := by
                    have : s[0].toNat ≠ 48 := fun e => h48 (UInt8.toNat_inj.1 (by simpa using e))
                    simp
                    omega
                  clear hget0 hz h48
                  rcases Nat.lt_or_ge 9007199254740992 (decV (s.data.toList.take k) * sc) with hbig | hbig
                  · have hpr := parseR_over hkn.out hsc.out hno.out hbig
                    have CP2 := CPQ.out wr
                    rw [hpr] at CP2
                    have CP3 := Lib.hid CP2
                    have hN := Lib.hid hbig
                    clear CP2 hpr hbig
                    go_wp2_with fail
                    refine (CS.out _).mono ?_
                    rintro e w3 ⟨rfl, rfl⟩
                    go_wp2_with fail
                    refine (CP3.out).mono ?_
                    rintro e w4 ⟨rfl, hb4⟩
                    have hB4 := below_tr hB hb4
                    go_wp2_with fail
                    refine (of_any sc _ (by have := hsle.out; omega)).mono ?_
                    rintro e w5 ⟨v5, rfl, k5, hb5⟩
                    obtain ⟨A5, c5, rfl, _⟩ := k5.form
                    have CM := mul_any (bitsOf (decV (s.data.toList.take k))) (bitsOf sc) _ _ w5 (by have := hlenk.out; omega) (by have := len64q (n := sc) (by have := hsle.out; omega); omega) (bin_bitsOf _) (bin_bitsOf _) ((hvv.out.below hb4).below hb5) k5
                    rw [val_bitsOf, val_bitsOf] at CM
                    obtain ⟨N, hNN⟩ : ∃ N, N = decV (s.data.toList.take k) * sc := ⟨_, rfl⟩
                    rw [← hNN] at CM
                    have hN2 := hN.out
                    rw [← hNN] at hN2
                    have hNb := Lib.hid hN2
                    have HNN := Lib.hid hNN
                    have HCM := Lib.hid CM
                    clear CM hN2 hNN
                    have hlN := Lib.hid (show (bitsOf N).length ≤ 300 by
                      rw [HNN.out]
                      have h1 := hlenk.out
                      exact Nat.le_trans (length_mul (n := 200) (m := 64) (by
                        have := val_lt (bin_bitsOf (decV (s.data.toList.take k)))
                        rw [val_bitsOf] at this
                        exact Nat.lt_of_lt_of_le this (Nat.pow_le_pow_right (by omega) h1)) (by have := hsle.out; omega)) (by omega))
                    go_wp2_with fail
                    refine HCM.out.mono ?_
                    rintro e w6 ⟨v6, rfl, k6, hb6⟩
                    obtain ⟨A6, c6, rfl, _⟩ := k6.form
                    have hB6 := below_tr (below_tr hB4 hb5) hb6
                    clear k5 hb4 hb5 hb6 HCM hB4
                    go_wp2_with fail
                    refine (of_any 9007199254740992 _ (by omega)).mono ?_
                    rintro e w7 ⟨v7, rfl, k7, hb7⟩
                    obtain ⟨A7, c7, rfl, _⟩ := k7.form
                    have CC := cmp_any (bitsOf N) (bitsOf 9007199254740992) _ _ w7 (by have := hlN.out; omega) (by have := len64q (n := 9007199254740992) (by omega); omega) (bin_bitsOf _) (bin_bitsOf _) (k6.below hb7) k7
                    rw [val_bitsOf, val_bitsOf] at CC
                    rw [show cmpN N 9007199254740992 = 1 by unfold cmpN; rw [if_pos hNb.out]] at CC
                    have HCC := Lib.hid CC
                    have k67 := Lib.hid (k6.below hb7)
                    have hB7 := below_tr hB6 hb7
                    clear CC k6 k7 hb7
                    go_wp2_with fail
                    refine HCC.out.mono ?_
                    rintro e w8 ⟨rfl, rfl⟩
                    go_wp2_with fail
                    go_ret
                    exact ⟨rfl, hB7⟩
                  · have hpr := parseR_ok hkn.out hsc.out hno.out hbig
                    have CP2 := CPQ.out wr
                    rw [hpr] at CP2
                    obtain ⟨R, hR⟩ : ∃ R, R = decV (s.data.toList.take k) * sc := ⟨_, rfl⟩
                    rw [← hR] at CP2
                    have CP3 := Lib.hid CP2
                    have HR := Lib.hid hR
                    have hRi : (R : Int) ≤ 9007199254740992 := by omega
                    have hN := Lib.hid hbig
                    clear CP2 hpr hbig hR
                    go_wp2_with fail
                    refine (CS.out _).mono ?_
                    rintro e w3 ⟨rfl, rfl⟩
                    go_wp2_with fail
                    refine (CP3.out).mono ?_
                    rintro e w4 ⟨rfl, hb4⟩
                    have hB4 := below_tr hB hb4
                    go_wp2_with fail
                    refine (of_any sc _ (by have := hsle.out; omega)).mono ?_
                    rintro e w5 ⟨v5, rfl, k5, hb5⟩
                    obtain ⟨A5, c5, rfl, _⟩ := k5.form
                    have CM := mul_any (bitsOf (decV (s.data.toList.take k))) (bitsOf sc) _ _ w5 (by have := hlenk.out; omega) (by have := len64q (n := sc) (by have := hsle.out; omega); omega) (bin_bitsOf _) (bin_bitsOf _) ((hvv.out.below hb4).below hb5) k5
                    rw [val_bitsOf, val_bitsOf] at CM
                    obtain ⟨N, hNN⟩ : ∃ N, N = decV (s.data.toList.take k) * sc := ⟨_, rfl⟩
                    rw [← hNN] at CM
                    have hN2 := hN.out
                    rw [← hNN] at hN2
                    have hNb := Lib.hid hN2
                    have HNN := Lib.hid hNN
                    have HCM := Lib.hid CM
                    clear CM hN2 hNN
                    have hlN := Lib.hid (show (bitsOf N).length ≤ 300 by
                      rw [HNN.out]
                      have h1 := hlenk.out
                      exact Nat.le_trans (length_mul (n := 200) (m := 64) (by
                        have := val_lt (bin_bitsOf (decV (s.data.toList.take k)))
                        rw [val_bitsOf] at this
                        exact Nat.lt_of_lt_of_le this (Nat.pow_le_pow_right (by omega) h1)) (by have := hsle.out; omega)) (by omega))
                    go_wp2_with fail
                    refine HCM.out.mono ?_
                    rintro e w6 ⟨v6, rfl, k6, hb6⟩
                    obtain ⟨A6, c6, rfl, _⟩ := k6.form
                    have hB6 := below_tr (below_tr hB4 hb5) hb6
                    clear k5 hb4 hb5 hb6 HCM hB4
                    go_wp2_with fail
                    refine (of_any 9007199254740992 _ (by omega)).mono ?_
                    rintro e w7 ⟨v7, rfl, k7, hb7⟩
                    obtain ⟨A7, c7, rfl, _⟩ := k7.form
                    have CC := cmp_any (bitsOf N) (bitsOf 9007199254740992) _ _ w7 (by have := hlN.out; omega) (by have := len64q (n := 9007199254740992) (by omega); omega) (bin_bitsOf _) (bin_bitsOf _) (k6.below hb7) k7
                    rw [val_bitsOf, val_bitsOf] at CC
                    obtain ⟨cz, hcz, hczn⟩ : ∃ cz : Int, cz = cmpN N 9007199254740992 ∧ cz ≤ 0 := ⟨_, rfl, by unfold cmpN; rw [if_neg (by have := hNb.out; omega)]; split <;> omega⟩
                    rw [← hcz] at CC
                    clear hcz
                    have HCC := Lib.hid CC
                    have k67 := Lib.hid (k6.below hb7)
                    have hB7 := below_tr hB6 hb7
                    clear CC k6 k7 hb7
                    go_wp2_with fail
                    refine HCC.out.mono ?_
                    rintro e w8 ⟨rfl, rfl⟩
                    go_wp2_with fail
                    have CNu := number_any (bitsOf N) _ w7 (by have := hlN.out; omega) (bin_bitsOf _) k67.out
                    rw [val_bitsOf, Nat.mod_eq_of_lt (by have := hNb.out; omega), show N = R from HNN.out.trans HR.out.symm] at CNu
                    obtain ⟨bb, hbb⟩ : ∃ bb, bb = decide (((bitsOf R).length : Int) ≤ 64) := ⟨_, rfl⟩
                    rw [← hbb] at CNu
                    clear hbb
                    have HNU := Lib.hid CNu
                    clear CNu
                    refine Calls.mono (by rw [show N = R from HNN.out.trans HR.out.symm]; exact HNU.out) ?_
                    rintro e w9 ⟨rfl, rfl⟩
                    go_wp2_with fail
                    go_ret
                    exact ⟨rfl, hB7⟩
    · have hge : s.size ≤ k := by omega
      have hkn : Hid (ndig s.data.toList = k) := Lib.hid (ndig_at (by rw [HLS.out]; exact hk) hd.out (fun c e => by rw [List.getElem?_eq_none (by rw [HLS.out]; exact hge)] at e; cases e))
      clear hd
      have hlenk := Lib.hid (dec_len (s.data.toList.take k) (by have := digs s.data.toList; rw [hkn.out] at this; exact this) (by rw [List.length_take, HLS.out]; omega))
      have hvv := Lib.hid hv
      obtain ⟨A4, c4, rfl, hc4⟩ := hv.form
      clear hv
      obtain ⟨sc, hsc0⟩ : ∃ sc, sc = scaleN (s.data.toList.drop k) := ⟨_, rfl⟩
      have hsle := Lib.hid (show sc ≤ 1073741824000 by rw [hsc0]; exact scaleN_le _)
      have CS0 := fun w1 => lscale_any (s.extract k s.size) w1
      rw [drop_extract, ← hsc0] at CS0
      have CS := Lib.hid CS0
      have hsc := Lib.hid hsc0.symm
      have CPQ := Lib.hid (fun w1 => qparse_any s (by omega) w1)
      clear hsc0 CS0
      rcases Nat.eq_zero_or_pos k with hk0 | hk0
      · have hpr := Lib.hid (parseR_form hkn.out hsc.out (.inl hk0))
        have hkz : ((k : Int) == 0) = true := by rw [hk0]; rfl
        clear hk0
        have CP2 := CPQ.out wr
        rw [hpr.out] at CP2
        have CP3 := Lib.hid CP2
        clear CP2
        go_wp2_with fail
        refine (CS.out _).mono ?_
        rintro e w3 ⟨rfl, rfl⟩
        go_wp2_with fail
        refine (CP3.out).mono ?_
        rintro e w4 ⟨rfl, hb4⟩
        go_wp2_with fail
        go_ret
        exact ⟨rfl, below_tr hB hb4⟩
      · have hkz : ((k : Int) == 0) = false := by simp; omega
        rcases Nat.eq_zero_or_pos sc with hz | hz
        · have hpr := Lib.hid (parseR_form hkn.out hsc.out (.inr (.inl hz)))
          have hzz : ((sc : Int) == 0) = true := by rw [hz]; rfl
          clear hz
          have CP2 := CPQ.out wr
          rw [hpr.out] at CP2
          have CP3 := Lib.hid CP2
          clear CP2
          go_wp2_with fail
          refine (CS.out _).mono ?_
          rintro e w3 ⟨rfl, rfl⟩
          go_wp2_with fail
          refine (CP3.out).mono ?_
          rintro e w4 ⟨rfl, hb4⟩
          go_wp2_with fail
          go_ret
          exact ⟨rfl, below_tr hB hb4⟩
        · have hzz : ((sc : Int) == 0) = false := by simp; omega
          have h0s : 0 < s.size := by omega
          have hget0 : s.data.toList[0]? = some s[0] := by
            rw [List.getElem?_eq_getElem (by rw [HLS.out]; exact h0s)]
            rfl
          rcases Nat.lt_or_ge 1 k with h1 | h1
          rotate_left
          · have hno : Hid (¬ (k = 0 ∨ sc = 0 ∨ (1 < k ∧ s.data.toList[0]? = some 48))) := Lib.hid (by rintro (h | h | ⟨h, _⟩) <;> omega)
            have h1i : (k : Int) ≤ 1 := by omega
            clear hget0 hz
            rcases Nat.lt_or_ge 9007199254740992 (decV (s.data.toList.take k) * sc) with hbig | hbig
            · have hpr := parseR_over hkn.out hsc.out hno.out hbig
              have CP2 := CPQ.out wr
              rw [hpr] at CP2
              have CP3 := Lib.hid CP2
              have hN := Lib.hid hbig
              clear CP2 hpr hbig
              go_wp2_with fail
              refine (CS.out _).mono ?_
              rintro e w3 ⟨rfl, rfl⟩
              go_wp2_with fail
              refine (CP3.out).mono ?_
              rintro e w4 ⟨rfl, hb4⟩
              have hB4 := below_tr hB hb4
              go_wp2_with fail
              refine (of_any sc _ (by have := hsle.out; omega)).mono ?_
              rintro e w5 ⟨v5, rfl, k5, hb5⟩
              obtain ⟨A5, c5, rfl, _⟩ := k5.form
              have CM := mul_any (bitsOf (decV (s.data.toList.take k))) (bitsOf sc) _ _ w5 (by have := hlenk.out; omega) (by have := len64q (n := sc) (by have := hsle.out; omega); omega) (bin_bitsOf _) (bin_bitsOf _) ((hvv.out.below hb4).below hb5) k5
              rw [val_bitsOf, val_bitsOf] at CM
              obtain ⟨N, hNN⟩ : ∃ N, N = decV (s.data.toList.take k) * sc := ⟨_, rfl⟩
              rw [← hNN] at CM
              have hN2 := hN.out
              rw [← hNN] at hN2
              have hNb := Lib.hid hN2
              have HNN := Lib.hid hNN
              have HCM := Lib.hid CM
              clear CM hN2 hNN
              have hlN := Lib.hid (show (bitsOf N).length ≤ 300 by
                rw [HNN.out]
                have h1 := hlenk.out
                exact Nat.le_trans (length_mul (n := 200) (m := 64) (by
                  have := val_lt (bin_bitsOf (decV (s.data.toList.take k)))
                  rw [val_bitsOf] at this
                  exact Nat.lt_of_lt_of_le this (Nat.pow_le_pow_right (by omega) h1)) (by have := hsle.out; omega)) (by omega))
              go_wp2_with fail
              refine HCM.out.mono ?_
              rintro e w6 ⟨v6, rfl, k6, hb6⟩
              obtain ⟨A6, c6, rfl, _⟩ := k6.form
              have hB6 := below_tr (below_tr hB4 hb5) hb6
              clear k5 hb4 hb5 hb6 HCM hB4
              go_wp2_with fail
              refine (of_any 9007199254740992 _ (by omega)).mono ?_
              rintro e w7 ⟨v7, rfl, k7, hb7⟩
              obtain ⟨A7, c7, rfl, _⟩ := k7.form
              have CC := cmp_any (bitsOf N) (bitsOf 9007199254740992) _ _ w7 (by have := hlN.out; omega) (by have := len64q (n := 9007199254740992) (by omega); omega) (bin_bitsOf _) (bin_bitsOf _) (k6.below hb7) k7
              rw [val_bitsOf, val_bitsOf] at CC
              rw [show cmpN N 9007199254740992 = 1 by unfold cmpN; rw [if_pos hNb.out]] at CC
              have HCC := Lib.hid CC
              have k67 := Lib.hid (k6.below hb7)
              have hB7 := below_tr hB6 hb7
              clear CC k6 k7 hb7
              go_wp2_with fail
              refine HCC.out.mono ?_
              rintro e w8 ⟨rfl, rfl⟩
              go_wp2_with fail
              go_ret
              exact ⟨rfl, hB7⟩
            · have hpr := parseR_ok hkn.out hsc.out hno.out hbig
              have CP2 := CPQ.out wr
              rw [hpr] at CP2
              obtain ⟨R, hR⟩ : ∃ R, R = decV (s.data.toList.take k) * sc := ⟨_, rfl⟩
              rw [← hR] at CP2
              have CP3 := Lib.hid CP2
              have HR := Lib.hid hR
              have hRi : (R : Int) ≤ 9007199254740992 := by omega
              have hN := Lib.hid hbig
              clear CP2 hpr hbig hR
              go_wp2_with fail
              refine (CS.out _).mono ?_
              rintro e w3 ⟨rfl, rfl⟩
              go_wp2_with fail
              refine (CP3.out).mono ?_
              rintro e w4 ⟨rfl, hb4⟩
              have hB4 := below_tr hB hb4
              go_wp2_with fail
              refine (of_any sc _ (by have := hsle.out; omega)).mono ?_
              rintro e w5 ⟨v5, rfl, k5, hb5⟩
              obtain ⟨A5, c5, rfl, _⟩ := k5.form
              have CM := mul_any (bitsOf (decV (s.data.toList.take k))) (bitsOf sc) _ _ w5 (by have := hlenk.out; omega) (by have := len64q (n := sc) (by have := hsle.out; omega); omega) (bin_bitsOf _) (bin_bitsOf _) ((hvv.out.below hb4).below hb5) k5
              rw [val_bitsOf, val_bitsOf] at CM
              obtain ⟨N, hNN⟩ : ∃ N, N = decV (s.data.toList.take k) * sc := ⟨_, rfl⟩
              rw [← hNN] at CM
              have hN2 := hN.out
              rw [← hNN] at hN2
              have hNb := Lib.hid hN2
              have HNN := Lib.hid hNN
              have HCM := Lib.hid CM
              clear CM hN2 hNN
              have hlN := Lib.hid (show (bitsOf N).length ≤ 300 by
                rw [HNN.out]
                have h1 := hlenk.out
                exact Nat.le_trans (length_mul (n := 200) (m := 64) (by
                  have := val_lt (bin_bitsOf (decV (s.data.toList.take k)))
                  rw [val_bitsOf] at this
                  exact Nat.lt_of_lt_of_le this (Nat.pow_le_pow_right (by omega) h1)) (by have := hsle.out; omega)) (by omega))
              go_wp2_with fail
              refine HCM.out.mono ?_
              rintro e w6 ⟨v6, rfl, k6, hb6⟩
              obtain ⟨A6, c6, rfl, _⟩ := k6.form
              have hB6 := below_tr (below_tr hB4 hb5) hb6
              clear k5 hb4 hb5 hb6 HCM hB4
              go_wp2_with fail
              refine (of_any 9007199254740992 _ (by omega)).mono ?_
              rintro e w7 ⟨v7, rfl, k7, hb7⟩
              obtain ⟨A7, c7, rfl, _⟩ := k7.form
              have CC := cmp_any (bitsOf N) (bitsOf 9007199254740992) _ _ w7 (by have := hlN.out; omega) (by have := len64q (n := 9007199254740992) (by omega); omega) (bin_bitsOf _) (bin_bitsOf _) (k6.below hb7) k7
              rw [val_bitsOf, val_bitsOf] at CC
              obtain ⟨cz, hcz, hczn⟩ : ∃ cz : Int, cz = cmpN N 9007199254740992 ∧ cz ≤ 0 := ⟨_, rfl, by unfold cmpN; rw [if_neg (by have := hNb.out; omega)]; split <;> omega⟩
              rw [← hcz] at CC
              clear hcz
              have HCC := Lib.hid CC
              have k67 := Lib.hid (k6.below hb7)
              have hB7 := below_tr hB6 hb7
              clear CC k6 k7 hb7
              go_wp2_with fail
              refine HCC.out.mono ?_
              rintro e w8 ⟨rfl, rfl⟩
              go_wp2_with fail
              have CNu := number_any (bitsOf N) _ w7 (by have := hlN.out; omega) (bin_bitsOf _) k67.out
              rw [val_bitsOf, Nat.mod_eq_of_lt (by have := hNb.out; omega), show N = R from HNN.out.trans HR.out.symm] at CNu
              obtain ⟨bb, hbb⟩ : ∃ bb, bb = decide (((bitsOf R).length : Int) ≤ 64) := ⟨_, rfl⟩
              rw [← hbb] at CNu
              clear hbb
              have HNU := Lib.hid CNu
              clear CNu
              refine Calls.mono (by rw [show N = R from HNN.out.trans HR.out.symm]; exact HNU.out) ?_
              rintro e w9 ⟨rfl, rfl⟩
              go_wp2_with fail
              go_ret
              exact ⟨rfl, hB7⟩
          · have h1k : (1 : Int) < (k : Int) := by omega
            by_cases h48 : s[0] = 48
            · have hpr := Lib.hid (parseR_form hkn.out hsc.out (.inr (.inr ⟨by omega, by rw [hget0, h48]⟩)))
              have q : ((s[0].toNat : Int) == 48) = true := by rw [h48]; rfl
              clear hget0 hz h48
              have CP2 := CPQ.out wr
              rw [hpr.out] at CP2
              have CP3 := Lib.hid CP2
              clear CP2
              go_wp2_with fail
              refine (CS.out _).mono ?_
              rintro e w3 ⟨rfl, rfl⟩
              go_wp2_with fail
              refine (CP3.out).mono ?_
              rintro e w4 ⟨rfl, hb4⟩
              go_wp2_with fail
              go_ret
              exact ⟨rfl, below_tr hB hb4⟩
            · have hno : Hid (¬ (k = 0 ∨ sc = 0 ∨ (1 < k ∧ s.data.toList[0]? = some 48))) := Lib.hid (by
                rintro (h | h | ⟨_, h⟩)
                · omega
                · omega
                · rw [hget0] at h; exact h48 (Option.some.inj h))
              have q : ((s[0].toNat : Int) == 48) = false := by
                have : s[0].toNat ≠ 48 := fun e => h48 (UInt8.toNat_inj.1 (by simpa using e))
                simp
                omega
              clear hget0 hz h48
              rcases Nat.lt_or_ge 9007199254740992 (decV (s.data.toList.take k) * sc) with hbig | hbig
              · have hpr := parseR_over hkn.out hsc.out hno.out hbig
                have CP2 := CPQ.out wr
                rw [hpr] at CP2
                have CP3 := Lib.hid CP2
                have hN := Lib.hid hbig
                clear CP2 hpr hbig
                go_wp2_with fail
                refine (CS.out _).mono ?_
                rintro e w3 ⟨rfl, rfl⟩
                go_wp2_with fail
                refine (CP3.out).mono ?_
                rintro e w4 ⟨rfl, hb4⟩
                have hB4 := below_tr hB hb4
                go_wp2_with fail
                refine (of_any sc _ (by have := hsle.out; omega)).mono ?_
                rintro e w5 ⟨v5, rfl, k5, hb5⟩
                obtain ⟨A5, c5, rfl, _⟩ := k5.form
                have CM := mul_any (bitsOf (decV (s.data.toList.take k))) (bitsOf sc) _ _ w5 (by have := hlenk.out; omega) (by have := len64q (n := sc) (by have := hsle.out; omega); omega) (bin_bitsOf _) (bin_bitsOf _) ((hvv.out.below hb4).below hb5) k5
                rw [val_bitsOf, val_bitsOf] at CM
                obtain ⟨N, hNN⟩ : ∃ N, N = decV (s.data.toList.take k) * sc := ⟨_, rfl⟩
                rw [← hNN] at CM
                have hN2 := hN.out
                rw [← hNN] at hN2
                have hNb := Lib.hid hN2
                have HNN := Lib.hid hNN
                have HCM := Lib.hid CM
                clear CM hN2 hNN
                have hlN := Lib.hid (show (bitsOf N).length ≤ 300 by
                  rw [HNN.out]
                  have h1 := hlenk.out
                  exact Nat.le_trans (length_mul (n := 200) (m := 64) (by
                    have := val_lt (bin_bitsOf (decV (s.data.toList.take k)))
                    rw [val_bitsOf] at this
                    exact Nat.lt_of_lt_of_le this (Nat.pow_le_pow_right (by omega) h1)) (by have := hsle.out; omega)) (by omega))
                go_wp2_with fail
                refine HCM.out.mono ?_
                rintro e w6 ⟨v6, rfl, k6, hb6⟩
                obtain ⟨A6, c6, rfl, _⟩ := k6.form
                have hB6 := below_tr (below_tr hB4 hb5) hb6
                clear k5 hb4 hb5 hb6 HCM hB4
                go_wp2_with fail
                refine (of_any 9007199254740992 _ (by omega)).mono ?_
                rintro e w7 ⟨v7, rfl, k7, hb7⟩
                obtain ⟨A7, c7, rfl, _⟩ := k7.form
                have CC := cmp_any (bitsOf N) (bitsOf 9007199254740992) _ _ w7 (by have := hlN.out; omega) (by have := len64q (n := 9007199254740992) (by omega); omega) (bin_bitsOf _) (bin_bitsOf _) (k6.below hb7) k7
                rw [val_bitsOf, val_bitsOf] at CC
                rw [show cmpN N 9007199254740992 = 1 by unfold cmpN; rw [if_pos hNb.out]] at CC
                have HCC := Lib.hid CC
                have k67 := Lib.hid (k6.below hb7)
                have hB7 := below_tr hB6 hb7
                clear CC k6 k7 hb7
                go_wp2_with fail
                refine HCC.out.mono ?_
                rintro e w8 ⟨rfl, rfl⟩
                go_wp2_with fail
                go_ret
                exact ⟨rfl, hB7⟩
              · have hpr := parseR_ok hkn.out hsc.out hno.out hbig
                have CP2 := CPQ.out wr
                rw [hpr] at CP2
                obtain ⟨R, hR⟩ : ∃ R, R = decV (s.data.toList.take k) * sc := ⟨_, rfl⟩
                rw [← hR] at CP2
                have CP3 := Lib.hid CP2
                have HR := Lib.hid hR
                have hRi : (R : Int) ≤ 9007199254740992 := by omega
                have hN := Lib.hid hbig
                clear CP2 hpr hbig hR
                go_wp2_with fail
                refine (CS.out _).mono ?_
                rintro e w3 ⟨rfl, rfl⟩
                go_wp2_with fail
                refine (CP3.out).mono ?_
                rintro e w4 ⟨rfl, hb4⟩
                have hB4 := below_tr hB hb4
                go_wp2_with fail
                refine (of_any sc _ (by have := hsle.out; omega)).mono ?_
                rintro e w5 ⟨v5, rfl, k5, hb5⟩
                obtain ⟨A5, c5, rfl, _⟩ := k5.form
                have CM := mul_any (bitsOf (decV (s.data.toList.take k))) (bitsOf sc) _ _ w5 (by have := hlenk.out; omega) (by have := len64q (n := sc) (by have := hsle.out; omega); omega) (bin_bitsOf _) (bin_bitsOf _) ((hvv.out.below hb4).below hb5) k5
                rw [val_bitsOf, val_bitsOf] at CM
                obtain ⟨N, hNN⟩ : ∃ N, N = decV (s.data.toList.take k) * sc := ⟨_, rfl⟩
                rw [← hNN] at CM
                have hN2 := hN.out
                rw [← hNN] at hN2
                have hNb := Lib.hid hN2
                have HNN := Lib.hid hNN
                have HCM := Lib.hid CM
                clear CM hN2 hNN
                have hlN := Lib.hid (show (bitsOf N).length ≤ 300 by
                  rw [HNN.out]
                  have h1 := hlenk.out
                  exact Nat.le_trans (length_mul (n := 200) (m := 64) (by
                    have := val_lt (bin_bitsOf (decV (s.data.toList.take k)))
                    rw [val_bitsOf] at this
                    exact Nat.lt_of_lt_of_le this (Nat.pow_le_pow_right (by omega) h1)) (by have := hsle.out; omega)) (by omega))
                go_wp2_with fail
                refine HCM.out.mono ?_
                rintro e w6 ⟨v6, rfl, k6, hb6⟩
                obtain ⟨A6, c6, rfl, _⟩ := k6.form
                have hB6 := below_tr (below_tr hB4 hb5) hb6
                clear k5 hb4 hb5 hb6 HCM hB4
                go_wp2_with fail
                refine (of_any 9007199254740992 _ (by omega)).mono ?_
                rintro e w7 ⟨v7, rfl, k7, hb7⟩
                obtain ⟨A7, c7, rfl, _⟩ := k7.form
                have CC := cmp_any (bitsOf N) (bitsOf 9007199254740992) _ _ w7 (by have := hlN.out; omega) (by have := len64q (n := 9007199254740992) (by omega); omega) (bin_bitsOf _) (bin_bitsOf _) (k6.below hb7) k7
                rw [val_bitsOf, val_bitsOf] at CC
                obtain ⟨cz, hcz, hczn⟩ : ∃ cz : Int, cz = cmpN N 9007199254740992 ∧ cz ≤ 0 := ⟨_, rfl, by unfold cmpN; rw [if_neg (by have := hNb.out; omega)]; split <;> omega⟩
                rw [← hcz] at CC
                clear hcz
                have HCC := Lib.hid CC
                have k67 := Lib.hid (k6.below hb7)
                have hB7 := below_tr hB6 hb7
                clear CC k6 k7 hb7
                go_wp2_with fail
                refine HCC.out.mono ?_
                rintro e w8 ⟨rfl, rfl⟩
                go_wp2_with fail
                have CNu := number_any (bitsOf N) _ w7 (by have := hlN.out; omega) (bin_bitsOf _) k67.out
                rw [val_bitsOf, Nat.mod_eq_of_lt (by have := hNb.out; omega), show N = R from HNN.out.trans HR.out.symm] at CNu
                obtain ⟨bb, hbb⟩ : ∃ bb, bb = decide (((bitsOf R).length : Int) ≤ 64) := ⟨_, rfl⟩
                rw [← hbb] at CNu
                clear hbb
                have HNU := Lib.hid CNu
                clear CNu
                refine Calls.mono (by rw [show N = R from HNN.out.trans HR.out.symm]; exact HNU.out) ?_
                rintro e w9 ⟨rfl, rfl⟩
                go_wp2_with fail
                go_ret
                exact ⟨rfl, hB7⟩
set_option maxRecDepth 100000 in
theorem parses_long (s : ByteArray) (hs : 60 < s.size) (w : World) (hT : Tab w) : Calls Tryd.prog 3 #[.string s] w fun e w' => e = .returned (.bool true) ∧ Below w.heap.size w w' := by
  have CL := Lib.hid (fun (u w1 : World) (hb : Below w.heap.size w w1) => (lives02_any w1 (tab_below hT hb)))
  have hsi : (60 : Int) < (s.size : Int) := by omega
  clear hT
  go_enter Tryd.func3, Tryd.ntmps3
  go_wp2_with fail
  refine (CL.out w w (Below.refl _ _)).mono ?_
  rintro e w1 ⟨rfl, hb1⟩
  go_wp2_with fail
  refine (CL.out w w1 hb1).mono ?_
  rintro e w2 ⟨rfl, hb2⟩
  go_wp2_with fail
  go_ret
  exact ⟨rfl, below_tr hb1 hb2⟩
theorem quantParses_walk {pr : Prop} (s : ByteArray) (_ : pr) (w : World) (hT : Tab w) : Calls Tryd.prog 3 #[.string s] w fun e w' => e = .returned (.bool true) ∧ Below w.heap.size w w' := by
  rcases Nat.lt_or_ge 60 s.size with h | h
  · exact parses_long s h w hT
  · exact parses_ok s h w hT
end Go.Proofs.YtilmmmokobhnfaaDoor
