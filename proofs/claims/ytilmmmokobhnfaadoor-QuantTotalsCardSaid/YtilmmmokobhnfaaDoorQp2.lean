/-
  The walk of package quant's Parse. (printed by wip/gen_qp.py)
-/
import Derived.Test.YtilmmmokobhnfaaDoorQp
namespace Go.Proofs.YtilmmmokobhnfaaDoor
open Go.RowKit Go.Proofs.Mem Go.Proofs.Qn
set_option linter.unusedVariables false
set_option linter.unusedSimpArgs false
theorem decV_bound (l : List UInt8) {k : Nat} (hk : ndig l = k) : k ≤ 19 → decV (l.take k) < 18446744073709551616 := by
  intro h19
  have hd := digs l
  rw [hk] at hd
  have h := decV_lt _ hd
  have hp : 10 ^ (l.take k).length ≤ 10 ^ 19 := Nat.pow_le_pow_right (by omega) (by rw [List.length_take]; omega)
  omega
set_option maxHeartbeats 2000000 in
set_option maxRecDepth 100000 in
theorem qparse_any (s : ByteArray) (hs : s.size ≤ 140737488355328) (w : World) :
    Calls Tryd.prog 12 #[.string s] w fun e w' => e = .returned (.tuple #[.int .i64 ((parseR s.data.toList).1 : Nat), .int .i64 ((parseR s.data.toList).2 : Nat)]) ∧ Below w.heap.size w w' := by
  have hls : s.data.toList.length = s.size := rfl
  have HLS := Lib.hid hls
  have hs0 := Lib.hid hs
  clear hls
  go_enter Tryd.func12, Tryd.ntmps12
  go_wp2_with fail
  go_loop [4] (fun i => ∃ k : Nat, k ≤ s.size ∧ i = .int .i64 k ∧ Hid (∀ x ∈ s.data.toList.take k, isDig x = true)) (fun i => s.size - (intOf i).toNat)
  case atStart => exact ⟨0, Nat.zero_le _, rfl, Lib.hid (by simp)⟩
  case round =>
    obtain ⟨k, hk, rfl, hd⟩ := hrel
    by_cases hlt : k < s.size
    · have hget : s.data.toList[k]? = some s[k] := by
        rw [List.getElem?_eq_getElem (by rw [HLS.out]; exact hlt)]
        rfl
      by_cases hc : isDig s[k] = true
      · have hd2 := digits_step hget hc hd.out
        simp only [isDig, Bool.and_eq_true, decide_eq_true_eq] at hc
        have b1 : (48 : Int) ≤ (s[k].toNat : Int) := by omega
        have b2 : (s[k].toNat : Int) ≤ 57 := by omega
        have HD2 := Lib.hid hd2
        clear hd2 hget hd hc
        go_wp2_with fail
        exact ⟨⟨k + 1, hlt, by go_num, HD2⟩, by simp [intOf]; omega⟩
      · have hc0 := hc
        have hc : isDig s[k] = false := by simpa using hc0
        have hkn : Hid (ndig s.data.toList = k) := Lib.hid (ndig_at (by rw [HLS.out]; exact hk) hd.out (fun c e => by rw [hget] at e; rw [← Option.some.inj e]; exact hc))
        have hcc : s[k].toNat < 48 ∨ (48 ≤ s[k].toNat ∧ 57 < s[k].toNat) := by
          simp only [isDig, Bool.and_eq_false_iff, decide_eq_false_iff_not] at hc
          omega
        clear hget hc hd
        clear hc0
        rcases hcc with hcc | ⟨hc1, hc2⟩
        · have b1 : (s[k].toNat : Int) < 48 := by omega
          obtain ⟨sc, hsc0⟩ : ∃ sc, sc = scaleN (s.data.toList.drop k) := ⟨_, rfl⟩
          have hsle := Lib.hid (show sc ≤ 1073741824000 by rw [hsc0]; exact scaleN_le _)
          have CS0 := qscale_any (s.extract k s.size) w
          rw [drop_extract, ← hsc0] at CS0
          have hsc := Lib.hid hsc0.symm
          clear hsc0
          have hv := Lib.hid (decV_bound s.data.toList hkn.out)
          rcases Nat.eq_zero_or_pos k with hk0 | hk0
          · have hpr := Lib.hid (parseR_form hkn.out hsc.out (.inl hk0))
            have hkz : ((k : Int) == 0) = true := by rw [hk0]; rfl
            have CS := Lib.hid CS0
            clear CS0
            have HK0 := Lib.hid hk0
            clear hk0
            go_wp2_with fail
            refine CS.out.mono ?_
            rintro e w1 ⟨rfl, rfl⟩
            go_wp2_with fail
            go_ret2
            exact ⟨by rw [hpr.out]; rfl, Below.refl _ _⟩
          · have hkz : ((k : Int) == 0) = false := by simp; omega
            rcases Nat.eq_zero_or_pos sc with hz | hz
            · have hpr := Lib.hid (parseR_form hkn.out hsc.out (.inr (.inl hz)))
              subst hz
              have CS := Lib.hid CS0
              clear CS0
              go_wp2_with fail
              refine CS.out.mono ?_
              rintro e w1 ⟨rfl, rfl⟩
              go_wp2_with fail
              go_ret2
              exact ⟨by rw [hpr.out]; rfl, Below.refl _ _⟩
            · have hdz : decide (sc ≠ 0) = true := by simp; omega
              rw [hdz] at CS0
              have CS := Lib.hid CS0
              clear CS0
              clear hdz
              have h0s : 0 < s.size := by omega
              have hget0 : s.data.toList[0]? = some s[0] := by
                rw [List.getElem?_eq_getElem (by rw [HLS.out]; exact h0s)]
                rfl
              rcases Nat.lt_or_ge 1 k with h1 | h1
              rotate_left
              · have hno : Hid (¬ (k = 0 ∨ sc = 0 ∨ (1 < k ∧ s.data.toList[0]? = some 48))) := Lib.hid (by rintro (h | h | ⟨h, _⟩) <;> omega)
                have h1i : (k : Int) ≤ 1 := by omega
                clear hget0
                go_wp2_with fail
                refine CS.out.mono ?_
                rintro e w1 ⟨rfl, rfl⟩
                go_wp2_with fail
                refine (parse_uint hkn.out (by omega) (by omega) hk _).mono ?_
                rintro e w2 ⟨rfl, hb2⟩
                have hv19 : decV (s.data.toList.take k) < 18446744073709551616 := hv.out (by omega)
                have CW := wof_any (decV (s.data.toList.take k)) sc w2 hv19 (by have := hsle.out; omega)
                obtain ⟨v, hvv⟩ : ∃ v, v = decV (s.data.toList.take k) := ⟨_, rfl⟩
                rw [← hvv] at CW ⊢
                have HVV := Lib.hid hvv
                have CW2 := Lib.hid CW
                clear hvv hv19 CW
                go_wp2_with fail
                refine CW2.out.mono ?_
                rintro e w3 ⟨h, l, rfl, hN, hh, hl, hb3⟩
                have HN := Lib.hid hN
                have hB3 := below_tr (below_tr hb2 hb3) (below_al w3 (.cells #[.int .u64 h, .int .u64 l] 54))
                have hkb := Bk.new w3 54 #[.int .u64 h, .int .u64 l]
                have z0 := hkb.cell 0
                have z1 := hkb.cell 1
                clear hN hkb hb2 hb3
                rcases Nat.eq_zero_or_pos h with rfl | h0
                · rcases Nat.lt_or_ge 9007199254740992 l with hlt | hle
                  · have hpr := Lib.hid (parseR_over hkn.out hsc.out hno.out (by rw [← HVV.out, HN.out]; omega))
                    have hi : (9007199254740992 : Int) < (l : Int) := by omega
                    go_wp2_with fail
                    go_ret2
                    exact ⟨by rw [hpr.out]; rfl, hB3⟩
                  · have hpr := Lib.hid (parseR_ok hkn.out hsc.out hno.out (by rw [← HVV.out, HN.out]; omega))
                    have hval : decV (s.data.toList.take k) * sc = l := by rw [← HVV.out, HN.out]; omega
                    have HVAL := Lib.hid hval
                    have hi : (l : Int) ≤ 9007199254740992 := by omega
                    clear hval
                    go_wp2_with fail
                    go_ret2
                    exact ⟨by rw [hpr.out, HVAL.out]; rfl, hB3⟩
                · have hpr := Lib.hid (parseR_over hkn.out hsc.out hno.out (by rw [← HVV.out, HN.out]; omega))
                  have hi : (0 : Int) < (h : Int) := by omega
                  go_wp2_with fail
                  go_ret2
                  exact ⟨by rw [hpr.out]; rfl, hB3⟩
              · have h1k : (1 : Int) < (k : Int) := by omega
                by_cases h48 : s[0] = 48
                · have hpr := Lib.hid (parseR_form hkn.out hsc.out (.inr (.inr ⟨by omega, by rw [hget0, h48]⟩)))
                  have q : ((s[0].toNat : Int) == 48) = true := by rw [h48]; rfl
                  clear hget0
                  go_wp2_with fail
                  refine CS.out.mono ?_
                  rintro e w1 ⟨rfl, rfl⟩
                  go_wp2_with fail
                  go_ret2
                  exact ⟨by rw [hpr.out]; rfl, Below.refl _ _⟩
                · have hno : Hid (¬ (k = 0 ∨ sc = 0 ∨ (1 < k ∧ s.data.toList[0]? = some 48))) := Lib.hid (by
                    rintro (h | h | ⟨_, h⟩)
                    · omega
                    · omega
                    · rw [hget0] at h; exact h48 (Option.some.inj h))
                  have q : ((s[0].toNat : Int) == 48) = false := by
                    have : s[0].toNat ≠ 48 := fun e => h48 (UInt8.toNat_inj.1 (by simpa using e))
                    simp
                    omega
                  clear hget0
                  rcases Nat.lt_or_ge 19 k with h19 | h19
                  · have hpr := Lib.hid (parseR_many hkn.out hsc.out hno.out h19)
                    have hi : (19 : Int) < (k : Int) := by omega
                    go_wp2_with fail
                    refine CS.out.mono ?_
                    rintro e w1 ⟨rfl, rfl⟩
                    go_wp2_with fail
                    go_ret2
                    exact ⟨by rw [hpr.out]; rfl, Below.refl _ _⟩
                  · have hi : (k : Int) ≤ 19 := by omega
                    go_wp2_with fail
                    refine CS.out.mono ?_
                    rintro e w1 ⟨rfl, rfl⟩
                    go_wp2_with fail
                    refine (parse_uint hkn.out (by omega) (by omega) hk _).mono ?_
                    rintro e w2 ⟨rfl, hb2⟩
                    have hv19 : decV (s.data.toList.take k) < 18446744073709551616 := hv.out (by omega)
                    have CW := wof_any (decV (s.data.toList.take k)) sc w2 hv19 (by have := hsle.out; omega)
                    obtain ⟨v, hvv⟩ : ∃ v, v = decV (s.data.toList.take k) := ⟨_, rfl⟩
                    rw [← hvv] at CW ⊢
                    have HVV := Lib.hid hvv
                    have CW2 := Lib.hid CW
                    clear hvv hv19 CW
                    go_wp2_with fail
                    refine CW2.out.mono ?_
                    rintro e w3 ⟨h, l, rfl, hN, hh, hl, hb3⟩
                    have HN := Lib.hid hN
                    have hB3 := below_tr (below_tr hb2 hb3) (below_al w3 (.cells #[.int .u64 h, .int .u64 l] 54))
                    have hkb := Bk.new w3 54 #[.int .u64 h, .int .u64 l]
                    have z0 := hkb.cell 0
                    have z1 := hkb.cell 1
                    clear hN hkb hb2 hb3
                    rcases Nat.eq_zero_or_pos h with rfl | h0
                    · rcases Nat.lt_or_ge 9007199254740992 l with hlt | hle
                      · have hpr := Lib.hid (parseR_over hkn.out hsc.out hno.out (by rw [← HVV.out, HN.out]; omega))
                        have hi : (9007199254740992 : Int) < (l : Int) := by omega
                        go_wp2_with fail
                        go_ret2
                        exact ⟨by rw [hpr.out]; rfl, hB3⟩
                      · have hpr := Lib.hid (parseR_ok hkn.out hsc.out hno.out (by rw [← HVV.out, HN.out]; omega))
                        have hval : decV (s.data.toList.take k) * sc = l := by rw [← HVV.out, HN.out]; omega
                        have HVAL := Lib.hid hval
                        have hi : (l : Int) ≤ 9007199254740992 := by omega
                        clear hval
                        go_wp2_with fail
                        go_ret2
                        exact ⟨by rw [hpr.out, HVAL.out]; rfl, hB3⟩
                    · have hpr := Lib.hid (parseR_over hkn.out hsc.out hno.out (by rw [← HVV.out, HN.out]; omega))
                      have hi : (0 : Int) < (h : Int) := by omega
                      go_wp2_with fail
                      go_ret2
                      exact ⟨by rw [hpr.out]; rfl, hB3⟩
        · have b1 : (48 : Int) ≤ (s[k].toNat : Int) := by omega
          have b2 : (57 : Int) < (s[k].toNat : Int) := by omega
          obtain ⟨sc, hsc0⟩ : ∃ sc, sc = scaleN (s.data.toList.drop k) := ⟨_, rfl⟩
          have hsle := Lib.hid (show sc ≤ 1073741824000 by rw [hsc0]; exact scaleN_le _)
          have CS0 := qscale_any (s.extract k s.size) w
          rw [drop_extract, ← hsc0] at CS0
          have hsc := Lib.hid hsc0.symm
          clear hsc0
          have hv := Lib.hid (decV_bound s.data.toList hkn.out)
          rcases Nat.eq_zero_or_pos k with hk0 | hk0
          · have hpr := Lib.hid (parseR_form hkn.out hsc.out (.inl hk0))
            have hkz : ((k : Int) == 0) = true := by rw [hk0]; rfl
            have CS := Lib.hid CS0
            clear CS0
            have HK0 := Lib.hid hk0
            clear hk0
            go_wp2_with fail
            refine CS.out.mono ?_
            rintro e w1 ⟨rfl, rfl⟩
            go_wp2_with fail
            go_ret2
            exact ⟨by rw [hpr.out]; rfl, Below.refl _ _⟩
          · have hkz : ((k : Int) == 0) = false := by simp; omega
            rcases Nat.eq_zero_or_pos sc with hz | hz
            · have hpr := Lib.hid (parseR_form hkn.out hsc.out (.inr (.inl hz)))
              subst hz
              have CS := Lib.hid CS0
              clear CS0
              go_wp2_with fail
              refine CS.out.mono ?_
              rintro e w1 ⟨rfl, rfl⟩
              go_wp2_with fail
              go_ret2
              exact ⟨by rw [hpr.out]; rfl, Below.refl _ _⟩
            · have hdz : decide (sc ≠ 0) = true := by simp; omega
              rw [hdz] at CS0
              have CS := Lib.hid CS0
              clear CS0
              clear hdz
              have h0s : 0 < s.size := by omega
              have hget0 : s.data.toList[0]? = some s[0] := by
                rw [List.getElem?_eq_getElem (by rw [HLS.out]; exact h0s)]
                rfl
              rcases Nat.lt_or_ge 1 k with h1 | h1
              rotate_left
              · have hno : Hid (¬ (k = 0 ∨ sc = 0 ∨ (1 < k ∧ s.data.toList[0]? = some 48))) := Lib.hid (by rintro (h | h | ⟨h, _⟩) <;> omega)
                have h1i : (k : Int) ≤ 1 := by omega
                clear hget0
                go_wp2_with fail
                refine CS.out.mono ?_
                rintro e w1 ⟨rfl, rfl⟩
                go_wp2_with fail
                refine (parse_uint hkn.out (by omega) (by omega) hk _).mono ?_
                rintro e w2 ⟨rfl, hb2⟩
                have hv19 : decV (s.data.toList.take k) < 18446744073709551616 := hv.out (by omega)
                have CW := wof_any (decV (s.data.toList.take k)) sc w2 hv19 (by have := hsle.out; omega)
                obtain ⟨v, hvv⟩ : ∃ v, v = decV (s.data.toList.take k) := ⟨_, rfl⟩
                rw [← hvv] at CW ⊢
                have HVV := Lib.hid hvv
                have CW2 := Lib.hid CW
                clear hvv hv19 CW
                go_wp2_with fail
                refine CW2.out.mono ?_
                rintro e w3 ⟨h, l, rfl, hN, hh, hl, hb3⟩
                have HN := Lib.hid hN
                have hB3 := below_tr (below_tr hb2 hb3) (below_al w3 (.cells #[.int .u64 h, .int .u64 l] 54))
                have hkb := Bk.new w3 54 #[.int .u64 h, .int .u64 l]
                have z0 := hkb.cell 0
                have z1 := hkb.cell 1
                clear hN hkb hb2 hb3
                rcases Nat.eq_zero_or_pos h with rfl | h0
                · rcases Nat.lt_or_ge 9007199254740992 l with hlt | hle
                  · have hpr := Lib.hid (parseR_over hkn.out hsc.out hno.out (by rw [← HVV.out, HN.out]; omega))
                    have hi : (9007199254740992 : Int) < (l : Int) := by omega
                    go_wp2_with fail
                    go_ret2
                    exact ⟨by rw [hpr.out]; rfl, hB3⟩
                  · have hpr := Lib.hid (parseR_ok hkn.out hsc.out hno.out (by rw [← HVV.out, HN.out]; omega))
                    have hval : decV (s.data.toList.take k) * sc = l := by rw [← HVV.out, HN.out]; omega
                    have HVAL := Lib.hid hval
                    have hi : (l : Int) ≤ 9007199254740992 := by omega
                    clear hval
                    go_wp2_with fail
                    go_ret2
                    exact ⟨by rw [hpr.out, HVAL.out]; rfl, hB3⟩
                · have hpr := Lib.hid (parseR_over hkn.out hsc.out hno.out (by rw [← HVV.out, HN.out]; omega))
                  have hi : (0 : Int) < (h : Int) := by omega
                  go_wp2_with fail
                  go_ret2
                  exact ⟨by rw [hpr.out]; rfl, hB3⟩
              · have h1k : (1 : Int) < (k : Int) := by omega
                by_cases h48 : s[0] = 48
                · have hpr := Lib.hid (parseR_form hkn.out hsc.out (.inr (.inr ⟨by omega, by rw [hget0, h48]⟩)))
                  have q : ((s[0].toNat : Int) == 48) = true := by rw [h48]; rfl
                  clear hget0
                  go_wp2_with fail
                  refine CS.out.mono ?_
                  rintro e w1 ⟨rfl, rfl⟩
                  go_wp2_with fail
                  go_ret2
                  exact ⟨by rw [hpr.out]; rfl, Below.refl _ _⟩
                · have hno : Hid (¬ (k = 0 ∨ sc = 0 ∨ (1 < k ∧ s.data.toList[0]? = some 48))) := Lib.hid (by
                    rintro (h | h | ⟨_, h⟩)
                    · omega
                    · omega
                    · rw [hget0] at h; exact h48 (Option.some.inj h))
                  have q : ((s[0].toNat : Int) == 48) = false := by
                    have : s[0].toNat ≠ 48 := fun e => h48 (UInt8.toNat_inj.1 (by simpa using e))
                    simp
                    omega
                  clear hget0
                  rcases Nat.lt_or_ge 19 k with h19 | h19
                  · have hpr := Lib.hid (parseR_many hkn.out hsc.out hno.out h19)
                    have hi : (19 : Int) < (k : Int) := by omega
                    go_wp2_with fail
                    refine CS.out.mono ?_
                    rintro e w1 ⟨rfl, rfl⟩
                    go_wp2_with fail
                    go_ret2
                    exact ⟨by rw [hpr.out]; rfl, Below.refl _ _⟩
                  · have hi : (k : Int) ≤ 19 := by omega
                    go_wp2_with fail
                    refine CS.out.mono ?_
                    rintro e w1 ⟨rfl, rfl⟩
                    go_wp2_with fail
                    refine (parse_uint hkn.out (by omega) (by omega) hk _).mono ?_
                    rintro e w2 ⟨rfl, hb2⟩
                    have hv19 : decV (s.data.toList.take k) < 18446744073709551616 := hv.out (by omega)
                    have CW := wof_any (decV (s.data.toList.take k)) sc w2 hv19 (by have := hsle.out; omega)
                    obtain ⟨v, hvv⟩ : ∃ v, v = decV (s.data.toList.take k) := ⟨_, rfl⟩
                    rw [← hvv] at CW ⊢
                    have HVV := Lib.hid hvv
                    have CW2 := Lib.hid CW
                    clear hvv hv19 CW
                    go_wp2_with fail
                    refine CW2.out.mono ?_
                    rintro e w3 ⟨h, l, rfl, hN, hh, hl, hb3⟩
                    have HN := Lib.hid hN
                    have hB3 := below_tr (below_tr hb2 hb3) (below_al w3 (.cells #[.int .u64 h, .int .u64 l] 54))
                    have hkb := Bk.new w3 54 #[.int .u64 h, .int .u64 l]
                    have z0 := hkb.cell 0
                    have z1 := hkb.cell 1
                    clear hN hkb hb2 hb3
                    rcases Nat.eq_zero_or_pos h with rfl | h0
                    · rcases Nat.lt_or_ge 9007199254740992 l with hlt | hle
                      · have hpr := Lib.hid (parseR_over hkn.out hsc.out hno.out (by rw [← HVV.out, HN.out]; omega))
                        have hi : (9007199254740992 : Int) < (l : Int) := by omega
                        go_wp2_with fail
                        go_ret2
                        exact ⟨by rw [hpr.out]; rfl, hB3⟩
                      · have hpr := Lib.hid (parseR_ok hkn.out hsc.out hno.out (by rw [← HVV.out, HN.out]; omega))
                        have hval : decV (s.data.toList.take k) * sc = l := by rw [← HVV.out, HN.out]; omega
                        have HVAL := Lib.hid hval
                        have hi : (l : Int) ≤ 9007199254740992 := by omega
                        clear hval
                        go_wp2_with fail
                        go_ret2
                        exact ⟨by rw [hpr.out, HVAL.out]; rfl, hB3⟩
                    · have hpr := Lib.hid (parseR_over hkn.out hsc.out hno.out (by rw [← HVV.out, HN.out]; omega))
                      have hi : (0 : Int) < (h : Int) := by omega
                      go_wp2_with fail
                      go_ret2
                      exact ⟨by rw [hpr.out]; rfl, hB3⟩
    · have hge : s.size ≤ k := by omega
      have hkn : Hid (ndig s.data.toList = k) := Lib.hid (ndig_at (by rw [HLS.out]; exact hk) hd.out (fun c e => by rw [List.getElem?_eq_none (by rw [HLS.out]; exact hge)] at e; cases e))
      clear hd
      obtain ⟨sc, hsc0⟩ : ∃ sc, sc = scaleN (s.data.toList.drop k) := ⟨_, rfl⟩
      have hsle := Lib.hid (show sc ≤ 1073741824000 by rw [hsc0]; exact scaleN_le _)
      have CS0 := qscale_any (s.extract k s.size) w
      rw [drop_extract, ← hsc0] at CS0
      have hsc := Lib.hid hsc0.symm
      clear hsc0
      have hv := Lib.hid (decV_bound s.data.toList hkn.out)
      rcases Nat.eq_zero_or_pos k with hk0 | hk0
      · have hpr := Lib.hid (parseR_form hkn.out hsc.out (.inl hk0))
        have hkz : ((k : Int) == 0) = true := by rw [hk0]; rfl
        have CS := Lib.hid CS0
        clear CS0
        have HK0 := Lib.hid hk0
        clear hk0
        go_wp2_with fail
        refine CS.out.mono ?_
        rintro e w1 ⟨rfl, rfl⟩
        go_wp2_with fail
        go_ret2
        exact ⟨by rw [hpr.out]; rfl, Below.refl _ _⟩
      · have hkz : ((k : Int) == 0) = false := by simp; omega
        rcases Nat.eq_zero_or_pos sc with hz | hz
        · have hpr := Lib.hid (parseR_form hkn.out hsc.out (.inr (.inl hz)))
          subst hz
          have CS := Lib.hid CS0
          clear CS0
          go_wp2_with fail
          refine CS.out.mono ?_
          rintro e w1 ⟨rfl, rfl⟩
          go_wp2_with fail
          go_ret2
          exact ⟨by rw [hpr.out]; rfl, Below.refl _ _⟩
        · have hdz : decide (sc ≠ 0) = true := by simp; omega
          rw [hdz] at CS0
          have CS := Lib.hid CS0
          clear CS0
          clear hdz
          have h0s : 0 < s.size := by omega
          have hget0 : s.data.toList[0]? = some s[0] := by
            rw [List.getElem?_eq_getElem (by rw [HLS.out]; exact h0s)]
            rfl
          rcases Nat.lt_or_ge 1 k with h1 | h1
          rotate_left
          · have hno : Hid (¬ (k = 0 ∨ sc = 0 ∨ (1 < k ∧ s.data.toList[0]? = some 48))) := Lib.hid (by rintro (h | h | ⟨h, _⟩) <;> omega)
            have h1i : (k : Int) ≤ 1 := by omega
            clear hget0
            go_wp2_with fail
            refine CS.out.mono ?_
            rintro e w1 ⟨rfl, rfl⟩
            go_wp2_with fail
            refine (parse_uint hkn.out (by omega) (by omega) hk _).mono ?_
            rintro e w2 ⟨rfl, hb2⟩
            have hv19 : decV (s.data.toList.take k) < 18446744073709551616 := hv.out (by omega)
            have CW := wof_any (decV (s.data.toList.take k)) sc w2 hv19 (by have := hsle.out; omega)
            obtain ⟨v, hvv⟩ : ∃ v, v = decV (s.data.toList.take k) := ⟨_, rfl⟩
            rw [← hvv] at CW ⊢
            have HVV := Lib.hid hvv
            have CW2 := Lib.hid CW
            clear hvv hv19 CW
            go_wp2_with fail
            refine CW2.out.mono ?_
            rintro e w3 ⟨h, l, rfl, hN, hh, hl, hb3⟩
            have HN := Lib.hid hN
            have hB3 := below_tr (below_tr hb2 hb3) (below_al w3 (.cells #[.int .u64 h, .int .u64 l] 54))
            have hkb := Bk.new w3 54 #[.int .u64 h, .int .u64 l]
            have z0 := hkb.cell 0
            have z1 := hkb.cell 1
            clear hN hkb hb2 hb3
            rcases Nat.eq_zero_or_pos h with rfl | h0
            · rcases Nat.lt_or_ge 9007199254740992 l with hlt | hle
              · have hpr := Lib.hid (parseR_over hkn.out hsc.out hno.out (by rw [← HVV.out, HN.out]; omega))
                have hi : (9007199254740992 : Int) < (l : Int) := by omega
                go_wp2_with fail
                go_ret2
                exact ⟨by rw [hpr.out]; rfl, hB3⟩
              · have hpr := Lib.hid (parseR_ok hkn.out hsc.out hno.out (by rw [← HVV.out, HN.out]; omega))
                have hval : decV (s.data.toList.take k) * sc = l := by rw [← HVV.out, HN.out]; omega
                have HVAL := Lib.hid hval
                have hi : (l : Int) ≤ 9007199254740992 := by omega
                clear hval
                go_wp2_with fail
                go_ret2
                exact ⟨by rw [hpr.out, HVAL.out]; rfl, hB3⟩
            · have hpr := Lib.hid (parseR_over hkn.out hsc.out hno.out (by rw [← HVV.out, HN.out]; omega))
              have hi : (0 : Int) < (h : Int) := by omega
              go_wp2_with fail
              go_ret2
              exact ⟨by rw [hpr.out]; rfl, hB3⟩
          · have h1k : (1 : Int) < (k : Int) := by omega
            by_cases h48 : s[0] = 48
            · have hpr := Lib.hid (parseR_form hkn.out hsc.out (.inr (.inr ⟨by omega, by rw [hget0, h48]⟩)))
              have q : ((s[0].toNat : Int) == 48) = true := by rw [h48]; rfl
              clear hget0
              go_wp2_with fail
              refine CS.out.mono ?_
              rintro e w1 ⟨rfl, rfl⟩
              go_wp2_with fail
              go_ret2
              exact ⟨by rw [hpr.out]; rfl, Below.refl _ _⟩
            · have hno : Hid (¬ (k = 0 ∨ sc = 0 ∨ (1 < k ∧ s.data.toList[0]? = some 48))) := Lib.hid (by
                rintro (h | h | ⟨_, h⟩)
                · omega
                · omega
                · rw [hget0] at h; exact h48 (Option.some.inj h))
              have q : ((s[0].toNat : Int) == 48) = false := by
                have : s[0].toNat ≠ 48 := fun e => h48 (UInt8.toNat_inj.1 (by simpa using e))
                simp
                omega
              clear hget0
              rcases Nat.lt_or_ge 19 k with h19 | h19
              · have hpr := Lib.hid (parseR_many hkn.out hsc.out hno.out h19)
                have hi : (19 : Int) < (k : Int) := by omega
                go_wp2_with fail
                refine CS.out.mono ?_
                rintro e w1 ⟨rfl, rfl⟩
                go_wp2_with fail
                go_ret2
                exact ⟨by rw [hpr.out]; rfl, Below.refl _ _⟩
              · have hi : (k : Int) ≤ 19 := by omega
                go_wp2_with fail
                refine CS.out.mono ?_
                rintro e w1 ⟨rfl, rfl⟩
                go_wp2_with fail
                refine (parse_uint hkn.out (by omega) (by omega) hk _).mono ?_
                rintro e w2 ⟨rfl, hb2⟩
                have hv19 : decV (s.data.toList.take k) < 18446744073709551616 := hv.out (by omega)
                have CW := wof_any (decV (s.data.toList.take k)) sc w2 hv19 (by have := hsle.out; omega)
                obtain ⟨v, hvv⟩ : ∃ v, v = decV (s.data.toList.take k) := ⟨_, rfl⟩
                rw [← hvv] at CW ⊢
                have HVV := Lib.hid hvv
                have CW2 := Lib.hid CW
                clear hvv hv19 CW
                go_wp2_with fail
                refine CW2.out.mono ?_
                rintro e w3 ⟨h, l, rfl, hN, hh, hl, hb3⟩
                have HN := Lib.hid hN
                have hB3 := below_tr (below_tr hb2 hb3) (below_al w3 (.cells #[.int .u64 h, .int .u64 l] 54))
                have hkb := Bk.new w3 54 #[.int .u64 h, .int .u64 l]
                have z0 := hkb.cell 0
                have z1 := hkb.cell 1
                clear hN hkb hb2 hb3
                rcases Nat.eq_zero_or_pos h with rfl | h0
                · rcases Nat.lt_or_ge 9007199254740992 l with hlt | hle
                  · have hpr := Lib.hid (parseR_over hkn.out hsc.out hno.out (by rw [← HVV.out, HN.out]; omega))
                    have hi : (9007199254740992 : Int) < (l : Int) := by omega
                    go_wp2_with fail
                    go_ret2
                    exact ⟨by rw [hpr.out]; rfl, hB3⟩
                  · have hpr := Lib.hid (parseR_ok hkn.out hsc.out hno.out (by rw [← HVV.out, HN.out]; omega))
                    have hval : decV (s.data.toList.take k) * sc = l := by rw [← HVV.out, HN.out]; omega
                    have HVAL := Lib.hid hval
                    have hi : (l : Int) ≤ 9007199254740992 := by omega
                    clear hval
                    go_wp2_with fail
                    go_ret2
                    exact ⟨by rw [hpr.out, HVAL.out]; rfl, hB3⟩
                · have hpr := Lib.hid (parseR_over hkn.out hsc.out hno.out (by rw [← HVV.out, HN.out]; omega))
                  have hi : (0 : Int) < (h : Int) := by omega
                  go_wp2_with fail
                  go_ret2
                  exact ⟨by rw [hpr.out]; rfl, hB3⟩
end Go.Proofs.YtilmmmokobhnfaaDoor
