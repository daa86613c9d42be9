/-
  trimtablaw06.OctetWrites: the walk.
-/
import Derived.Test.YtilmmmokobhnfaaOct6
namespace Go.Proofs.Ytilmmmokobhnfaa
open Go.RowKit Go.Proofs.Mem
set_option linter.unusedVariables false
set_option linter.unusedSimpArgs false
set_option maxHeartbeats 1000000 in
set_option maxRecDepth 100000 in
theorem octetWrites_long (A : Option Addr) (n c : Nat) (hn : 40 < n) (w : World) :
    Calls Try.prog 5 #[.slice A n c] w fun e w' => e = .returned (.bool true) ∧ Below w.heap.size w w' := by
  have h1 : (40 : Int) < (n : Int) := by omega
  go_enter Try.func5, Try.ntmps5
  go_wp2_with fail
  refine (lives06_any _).mono ?_
  rintro e w1 ⟨rfl, hb1⟩
  go_wp2_with fail
  refine (lives06_any _).mono ?_
  rintro e w2 ⟨rfl, hb2⟩
  go_wp2_with fail
  go_ret
  exact ⟨rfl, below_tr hb1 hb2⟩
set_option maxHeartbeats 1000000 in
set_option maxRecDepth 100000 in
theorem octetWrites_ok (A : Option Addr) (c : Nat) (xs : List St) (hx : xs.length ≤ 40) (hu : ∀ x ∈ xs, x.2.2.1 ≤ 18446744073709551615) (hz : ∀ x ∈ xs, x.2.2.2.size ≤ maxLen) (w : World) (hA : Sl w 4 (.slice A xs.length c) xs.length (xs.flatMap stcells)) :
    Calls Try.prog 5 #[.slice A xs.length c] w fun e w' => e = .returned (.bool true) ∧ Below w.heap.size w w' := by
  have hl1 : (xs.length : Int) ≤ 40 := by omega
  obtain ⟨n, hn⟩ : ∃ n, n = xs.length := ⟨_, rfl⟩
  rw [← hn] at hl1 hx
  have HA := Lib.hid hA
  have HN := Lib.hid hn
  have HU := Lib.hid hu
  have HZ := Lib.hid hz
  rw [← hn]
  clear hn hA hu hz
  go_enter Try.func5, Try.ntmps5
  go_wp2_with fail
  refine (lives06_any _).mono ?_
  rintro e w1 ⟨rfl, hb1⟩
  have hW0 := wt_new w1
  have hBw := hb1.alloc hb1.size (.cells #[.slice none 0 0] 66)
  have hBs : w.heap.size ≤ w1.heap.size := hb1.size
  go_wp2_with fail
  generalize w1.alloc (.cells #[.slice none 0 0] 66) = W1 at hW0 hBw ⊢
  generalize w1.heap.size = p at hW0 hBs ⊢
  go_loopw [4, 23] (fun sv iv wr => ∃ (i : Nat) (s : ByteArray) (r : Option Nat), i ≤ n ∧ iv = .int .i64 i ∧ sv = .string s ∧ Hid (s.data.toList = stsB (xs.take i)) ∧ WtO wr p r (stsB (xs.take i)) ∧ Below w.heap.size w wr ∧ (∀ k, r = some k → w.heap.size ≤ k)) (fun sv iv wr => n - (intOf iv).toNat)
  case atStart => exact ⟨0, ⟨#[]⟩, none, Nat.zero_le _, rfl, rfl, Lib.hid rfl, hW0, hBw, by simp⟩
  case round =>
    obtain ⟨i, s, r, hi, rfl, rfl, hs, hW, hB, hr⟩ := hrel
    have hlen := stsB_len (xs.take i)
    have hlt40 : (stsB (xs.take i)).length ≤ 10240 := by
      have : (xs.take i).length ≤ 40 := by rw [List.length_take]; omega
      omega
    have hssz : s.size ≤ 10240 := by
      have := congrArg List.length hs.out
      rw [Array.length_toList] at this
      have e : s.size = s.data.size := rfl
      omega
    clear hlen
    by_cases hlt : i < n
    · have hiA : i < xs.length := by rw [← HN.out]; exact hlt
      have hAr := HA.out.below hB
      obtain ⟨gA, oA, hAe, hgA, hadd, hcell⟩ := Sl.row' (s := 4) (f := stcells) (fun _ => rfl) (by omega) hAr i hiA
      subst hAe
      have c0 : wr.cell? ⟨gA, oA + i * 4, none⟩ = _ := hcell 0 _ rfl
      have c1 : wr.cell? ⟨gA, oA + i * 4 + 1, none⟩ = _ := hcell 1 _ rfl
      have c2 : wr.cell? ⟨gA, oA + i * 4 + 2, none⟩ = _ := hcell 2 _ rfl
      have c3 : wr.cell? ⟨gA, oA + i * 4 + 3, none⟩ = _ := hcell 3 _ rfl
      have hxi : xs[i]? = some xs[i] := List.getElem?_eq_getElem hiA
      have hu := HU.out _ (List.getElem_mem hiA)
      have hzz := HZ.out _ (List.getElem_mem hiA)
      generalize xs[i] = y at c0 c1 c2 c3 hxi hu hzz
      obtain ⟨k, nn, x, S⟩ := y
      simp only at c0 c1 c2 c3 hu hzz
      have hsucc := stsB_succ xs i _ hxi
      have HSU := Lib.hid hsucc
      clear hcell hAr hgA hxi hsucc
      have hi1 : i + 1 ≤ n := hlt
      have hblk := Bk.new wr 68 #[.int .i64 k, .int .i64 nn, .int .u64 x, .string S]
      have hBal := below_al wr (.cells #[.int .i64 k, .int .i64 nn, .int .u64 x, .string S] 68)
      have hW1 := hW.below hBal
      have hB1 := below_tr hB hBal
      have hpr : wr.heap.size ≠ p ∧ some wr.heap.size ≠ r := ⟨fun e => by have := hW.lt; omega, fun e => by have := hW.rlt _ e.symm; omega⟩
      have hpB : w.heap.size ≤ p := hBs
      have hBz := hB1.size
      clear hW hB
      by_cases h600 : 600 < S.size
      · have hS6 : (600 : Int) < (S.size : Int) := by omega
        go_wp2_with fail
        go_ret
        exact ⟨rfl, hB1⟩
      · have hS6 : (S.size : Int) ≤ 600 := by omega
        have hsb : S.size ≤ 600 := by omega
        by_cases hk0 : k = 0
        · subst hk0
          by_cases hw : wholeP nn
          · obtain ⟨m, rfl⟩ : ∃ m : Nat, nn = m := ⟨nn.toNat, by rcases hw with h | h | h | h <;> omega⟩
            have hstB : stB ((0 : Int), (m : Int), x, S) = putL x m := by simp [stB, hw]
            rw [hstB] at HSU
            have CP := Lib.hid (wput_ok x m hu hw _ hW1 (by omega))
            have hm8 : m ≤ 8 := by rcases hw with h | h | h | h <;> omega
            have CR := Lib.hid (fun w3 => put_any x m w3 hu hm8)
            have hcat := putB_size x m
            have hmm : m = 1 ∨ m = 2 ∨ m = 4 ∨ m = 8 := by rcases hw with h | h | h | h <;> omega
            have hbl := putB_list x m
            have HBL := Lib.hid hbl
            have HCA := Lib.hid hcat
            clear hstB hbl hw hcat hm8
            rcases hmm with rfl | rfl | rfl | rfl
            all_goals
              have hcat := HCA.out
              go_wp2_with fail
              refine CP.out.mono ?_
              rintro e w3 ⟨rfl, hW3⟩
              obtain ⟨r3, hWt3, hr3, hB3, hs3⟩ := done_below hW3 hB1 hpB hr hBz
              have hk3 := done_bk hW3 hblk hpr.1 hpr.2
              have e1 := hk3.cell 1
              have e2 := hk3.cell 2
              have e3 := hk3.cell 3
              clear hW3 hW1
              go_wp2_with fail
              refine (CR.out w3).mono ?_
              rintro e w4 ⟨rfl, hb4⟩
              go_wp2_with fail
              exact ⟨⟨i + 1, _, r3, hi1, by go_num, rfl, Lib.hid (by rw [data_app, HBL.out, hs.out, HSU.out]), by rw [HSU.out]; exact hWt3.below hb4, hB3.trans (hb4.mono hB3.size), hr3⟩, by simp [intOf]; omega⟩
          · have hstB : stB ((0 : Int), nn, x, S) = [] := by simp [stB, hw]
            rw [hstB, List.append_nil] at HSU
            have CP := Lib.hid (wput_not x nn hw p)
            have q1 : (nn == 1) = false := by simp; exact fun e => hw (.inl e)
            have q2 : (nn == 2) = false := by simp; exact fun e => hw (.inr (.inl e))
            have q3 : (nn == 4) = false := by simp; exact fun e => hw (.inr (.inr (.inl e)))
            have q4 : (nn == 8) = false := by simp; exact fun e => hw (.inr (.inr (.inr e)))
            have e1 := hblk.cell 1
            have e2 := hblk.cell 2
            have e3 := hblk.cell 3
            clear hstB hw
            go_wp2_with fail
            refine (CP.out _).mono ?_
            rintro e w3 ⟨rfl, rfl⟩
            go_wp2_with fail
            exact ⟨⟨i + 1, _, r, hi1, by go_num, rfl, Lib.hid (by rw [HSU.out]; exact hs.out), by rw [HSU.out]; exact hW1, hB1, hr⟩, by simp [intOf]; omega⟩
        · by_cases hk1 : k = 1
          · subst hk1
            have hstB : stB ((1 : Int), nn, x, S) = putL x 8 := by simp [stB]
            rw [hstB] at HSU
            have CP := wint_any (wrap64 (x : Int)) _ hW1 (by omega) (wfi_wrap _)
            have CR := fun w3 => int_any (wrap64 (x : Int)) w3 (wfi_wrap _)
            rw [u64_back x hu] at CP CR
            have CP := Lib.hid CP
            have CR := Lib.hid CR
            have hcat := putB_size x 8
            have HBL := Lib.hid (putB_list x 8)
            clear hstB
            go_wp2_with fail
            refine CP.out.mono ?_
            rintro e w3 ⟨rfl, hW3⟩
            obtain ⟨r3, hWt3, hr3, hB3, hs3⟩ := done_below hW3 hB1 hpB hr hBz
            have hk3 := done_bk hW3 hblk hpr.1 hpr.2
            have e1 := hk3.cell 1
            have e2 := hk3.cell 2
            have e3 := hk3.cell 3
            clear hW3 hW1
            go_wp2_with fail
            refine (CR.out w3).mono ?_
            rintro e w4 ⟨rfl, hb4⟩
            go_wp2_with fail
            exact ⟨⟨i + 1, _, r3, hi1, by go_num, rfl, Lib.hid (by rw [data_app, HBL.out, hs.out, HSU.out]), by rw [HSU.out]; exact hWt3.below hb4, hB3.trans (hb4.mono hB3.size), hr3⟩, by simp [intOf]; omega⟩
          · have q1 : (k == 0) = false := by simpa using hk0
            have q2 : (k == 1) = false := by simpa using hk1
            have hstB : stB (k, nn, x, S) = putL (min S.size 255) 1 ++ S.data.toList.take 255 := by simp [stB, hk0, hk1]
            rw [hstB] at HSU
            have CP := Lib.hid (wtext_any S _ hW1 (by omega) hzz)
            rw [List.append_assoc] at CP
            clear hstB hk0 hk1
            by_cases h255 : S.size ≤ 255
            · have CR := Lib.hid (fun w3 => text_any S w3 h255)
              have htB : (textB S).data.toList = putL (min S.size 255) 1 ++ S.data.toList.take 255 := by
                rw [textB, data_app, putB_list, show min S.size 255 = S.size by omega, List.take_of_length_le (by rw [Array.length_toList]; exact h255)]
              have HBL := Lib.hid htB
              have hcat : (textB S).size ≤ 256 := by
                rw [textB, ByteArray.size_append, putB_size]; omega
              have h255i : (S.size : Int) ≤ 255 := by omega
              clear htB
              go_wp2_with fail
              refine CP.out.mono ?_
              rintro e w3 ⟨rfl, hW3⟩
              obtain ⟨r3, hWt3, hr3, hB3, hs3⟩ := done_below hW3 hB1 hpB hr hBz
              have hk3 := done_bk hW3 hblk hpr.1 hpr.2
              have e1 := hk3.cell 1
              have e2 := hk3.cell 2
              have e3 := hk3.cell 3
              clear hW3 hW1
              go_wp2_with fail
              refine (CR.out w3).mono ?_
              rintro e w4 ⟨rfl, hb4⟩
              go_wp2_with fail
              exact ⟨⟨i + 1, _, r3, hi1, by go_num, rfl, Lib.hid (by rw [data_app, HBL.out, hs.out, HSU.out]), by rw [HSU.out]; exact hWt3.below hb4, hB3.trans (hb4.mono hB3.size), hr3⟩, by simp [intOf]; omega⟩
            · have hx1 : (S.extract 0 255).size = 255 := by rw [ByteArray.size_extract]; omega
              have hx2 : S.data.toList.take 255 = (S.extract 0 255).data.toList := by
                rw [ByteArray.data_extract, Array.toList_extract]
                simp [List.extract]
              have CR := Lib.hid (fun w3 => text_any (S.extract 0 255) w3 (by omega))
              have htB : (textB (S.extract 0 255)).data.toList = putL (min S.size 255) 1 ++ S.data.toList.take 255 := by
                rw [textB, data_app, putB_list, hx2, hx1, show min S.size 255 = 255 by omega]
              have HBL := Lib.hid htB
              have hcat : (textB (S.extract 0 255)).size ≤ 256 := by
                rw [textB, ByteArray.size_append, putB_size]; omega
              have h255i : (255 : Int) < (S.size : Int) := by omega
              have hmin2 : min 255 S.size = 255 := by omega
              clear htB hx1 hx2 h255
              go_wp2_with fail
              refine CP.out.mono ?_
              rintro e w3 ⟨rfl, hW3⟩
              obtain ⟨r3, hWt3, hr3, hB3, hs3⟩ := done_below hW3 hB1 hpB hr hBz
              have hk3 := done_bk hW3 hblk hpr.1 hpr.2
              have e1 := hk3.cell 1
              have e2 := hk3.cell 2
              have e3 := hk3.cell 3
              clear hW3 hW1
              go_wp2_with fail
              refine (CR.out w3).mono ?_
              rintro e w4 ⟨rfl, hb4⟩
              go_wp2_with fail
              exact ⟨⟨i + 1, _, r3, hi1, by go_num, rfl, Lib.hid (by rw [data_app, HBL.out, hs.out, HSU.out]), by rw [HSU.out]; exact hWt3.below hb4, hB3.trans (hb4.mono hB3.size), hr3⟩, by simp [intOf]; omega⟩
    · obtain rfl : i = n := by omega
      have htk : xs.take i = xs := List.take_of_length_le (by rw [HN.out]; exact Nat.le_refl _)
      rw [htk] at hW hs hlt40
      obtain ⟨L, hL⟩ : ∃ L, L = stsB xs := ⟨_, rfl⟩
      rw [← hL] at hW hs hlt40
      have hse : s = ⟨L.toArray⟩ := by
        apply ByteArray.ext
        rw [← hs.out]
      subst hse
      have HL := Lib.hid hL
      have CB := Lib.hid (fun w1 (hb : Below wr.heap.size wr w1) => wbytes_any w1 (hW.below hb) (by omega))
      have hBsz := hB.size
      clear hL htk hs hW hssz hlt hW0 hBw hr
      go_wp2_with fail
      refine (CB.out _ (Below.refl _ _)).mono ?_
      rintro e w2 ⟨v2, rfl, ho2, hb2⟩
      have hcv := conv_bytes L _ rfl v2 w2 (Sl.of_own ho2)
      clear ho2
      go_wp2_with fail
      refine (CB.out _ hb2).mono ?_
      rintro e w3 ⟨v3, rfl, ho3, hb3⟩
      have hB3 := below_tr (below_tr hB hb2) hb3
      have CRd := Lib.hid (read_any L.length L rfl v3 w3 (Sl.of_own ho3) (by omega))
      clear hcv ho3 CB
      go_wp2_with fail
      refine CRd.out.mono ?_
      rintro e w4 ⟨p2, rfl, ⟨r2, hR4, hr4⟩, hp2, hb4⟩
      have hB4 := below_tr hB3 hb4
      have hp2w : w.heap.size ≤ p2 := Nat.le_trans hB3.size hp2
      rw [HL.out] at hR4
      clear CRd hb4 hp2 hr4 hb3 hb2 hB hB3 hBsz
      go_wp2_with fail
      go_loopw [104] (fun iv wr => ∃ (j : Nat), j ≤ i ∧ iv = .int .i64 j ∧ RdO wr p2 r2 (stsB (xs.drop j)) false ∧ Below w.heap.size w wr) (fun iv wr => i - (intOf iv).toNat)
      case atStart => exact ⟨0, Nat.zero_le _, rfl, hR4, hB4⟩
      case round =>
        obtain ⟨j, hj, rfl, hR, hB⟩ := hrel
        have hlen := stsB_len (xs.drop j)
        have hlt4 : (stsB (xs.drop j)).length ≤ 10240 := by
          have : (xs.drop j).length ≤ 40 := by rw [List.length_drop]; have := HN.out; omega
          omega
        clear hlen
        by_cases hlt : j < i
        · have hiA : j < xs.length := by rw [← HN.out]; exact hlt
          have hAr := HA.out.below hB
          obtain ⟨gA, oA, hAe, hgA, hadd, hcell⟩ := Sl.row' (s := 4) (f := stcells) (fun _ => rfl) (by omega) hAr j hiA
          subst hAe
          have c0 : wr.cell? ⟨gA, oA + j * 4, none⟩ = _ := hcell 0 _ rfl
          have c1 : wr.cell? ⟨gA, oA + j * 4 + 1, none⟩ = _ := hcell 1 _ rfl
          have c2 : wr.cell? ⟨gA, oA + j * 4 + 2, none⟩ = _ := hcell 2 _ rfl
          have c3 : wr.cell? ⟨gA, oA + j * 4 + 3, none⟩ = _ := hcell 3 _ rfl
          have hxi : xs[j]? = some xs[j] := List.getElem?_eq_getElem hiA
          have hu := HU.out _ (List.getElem_mem hiA)
          have hzz := HZ.out _ (List.getElem_mem hiA)
          generalize xs[j] = y at c0 c1 c2 c3 hxi hu hzz
          obtain ⟨k, nn, x, S⟩ := y
          simp only at c0 c1 c2 c3 hu hzz
          have hsucc := stsB_drop xs j _ hxi
          rw [hsucc] at hR hlt4
          clear hcell hAr hgA hxi hsucc
          have hj1 : j + 1 ≤ i := hlt
          have hblk := Bk.new wr 68 #[.int .i64 k, .int .i64 nn, .int .u64 x, .string S]
          have hBal := below_al wr (.cells #[.int .i64 k, .int .i64 nn, .int .u64 x, .string S] 68)
          have hR1 := hR.below hBal
          have hB1 := below_tr hB hBal
          have hpr : wr.heap.size ≠ p2 := fun e => by have := hR.lt; omega
          generalize hrest : stsB (xs.drop (j + 1)) = rest at hR hR1 hlt4
          have HRE := Lib.hid hrest
          clear hR hB hrest
          by_cases hk0 : k = 0
          · subst hk0
            by_cases hw : wholeP nn
            · obtain ⟨m, rfl⟩ : ∃ m : Nat, nn = m := ⟨nn.toNat, by rcases hw with h | h | h | h <;> omega⟩
              have hstB : stB ((0 : Int), (m : Int), x, S) = putL x m := by simp [stB, hw]
              rw [hstB] at hR1 hlt4
              obtain ⟨W1, hW1⟩ : ∃ W1, W1 = wr.alloc (.cells #[.int .i64 0, .int .i64 m, .int .u64 x, .string S] 68) := ⟨_, rfl⟩
              rw [← hW1] at hblk hBal hR1 hB1
              have HW := Lib.hid hW1
              have CG := Lib.hid (fun w1 (hb : Below W1.heap.size W1 w1) => get_put x m hw w1 (hR1.below hb) (by omega))
              have hmm : m = 1 ∨ m = 2 ∨ m = 4 ∨ m = 8 := by rcases hw with h | h | h | h <;> omega
              clear hw hW1 hstB
              rcases hmm with rfl | rfl | rfl | rfl
              · have HG := Lib.hid (fun w1 hb => (CG.out w1 hb).mono (R' := fun e w' => e = .returned (.int .u64 ((x : Int) % 256)) ∧ RDone w1 w' p2 r2 rest false) (fun e w' ⟨h1, h2⟩ => ⟨by rw [h1]; simp, h2⟩))
                clear CG
                go_wp2_with fail
                rw [show wr.alloc (.cells #[.int .i64 0, .int .i64 1, .int .u64 x, .string S] 68) = W1 from HW.out.symm]
                have hBd : Below W1.heap.size W1 W1.drew := (Below.refl _ _).drew
                have q8 : IntKind.i64.wrap (8 * 1) = 8 * 1 := by decide
                have q9 : IntKind.i64.wrap 8 = 8 := by decide
                have q10 : IntKind.i64.wrap 16 = 16 := by decide
                have q11 : IntKind.i64.wrap 32 = 32 := by decide
                have q12 : IntKind.u64.wrap 256 = 256 := by decide
                have q13 : (x : Int).tmod 256 = (x : Int) % 256 := by rw [Int.tmod_eq_emod_of_nonneg (by omega)]
                have S0 : W1.drew.cell? ⟨wr.heap.size, 1, none⟩ = some (.int .i64 1) ∧ W1.drew.cell? ⟨wr.heap.size, 2, none⟩ = some (.int .u64 x) := ⟨hblk.drew.cell 1, hblk.drew.cell 2⟩
                go_region_held3 (fun w' => w'.cell? ⟨wr.heap.size, 1, none⟩ = some (.int .i64 1) ∧ w'.cell? ⟨wr.heap.size, 2, none⟩ = some (.int .u64 x))
                  (first | (with_reducible exact S0) | (with_reducible exact S5) | (with_reducible assumption))
                  ((go_at_call 30; refine (HG.out _ hBd).mono ?_; rintro e w5 ⟨rfl, hR5⟩; have k5 := hR5.2.bk hblk.drew hpr (by simp); have S5 : w5.cell? ⟨wr.heap.size, 1, none⟩ = some (.int .i64 1) ∧ w5.cell? ⟨wr.heap.size, 2, none⟩ = some (.int .u64 x) := ⟨k5.cell 1, k5.cell 2⟩))
                all_goals
                  clear q8 q9 q10 q11 q12 q13 S0 S5
                  obtain ⟨hR6, hB6, hs6⟩ := rdone_at hR5 (below_tr hB1 hBd) hp2w (below_tr hB1 hBd).size
                  have CBd := Lib.hid (bad_any w5 hR6)
                  clear hR5
                  go_wp2_with fail
                  refine CBd.out.mono ?_
                  rintro e w6 ⟨rfl, rfl⟩
                  go_wp2_with fail
                  exact ⟨⟨j + 1, hj1, by go_num, by rw [HRE.out]; exact hR6, hB6⟩, by simp [intOf]; omega⟩
              · have HG := Lib.hid (fun w1 hb => (CG.out w1 hb).mono (R' := fun e w' => e = .returned (.int .u64 ((x : Int) % 65536)) ∧ RDone w1 w' p2 r2 rest false) (fun e w' ⟨h1, h2⟩ => ⟨by rw [h1]; simp, h2⟩))
                clear CG
                go_wp2_with fail
                rw [show wr.alloc (.cells #[.int .i64 0, .int .i64 2, .int .u64 x, .string S] 68) = W1 from HW.out.symm]
                have hBd : Below W1.heap.size W1 W1.drew := (Below.refl _ _).drew
                have q8 : IntKind.i64.wrap (8 * 2) = 8 * 2 := by decide
                have q9 : IntKind.i64.wrap 8 = 8 := by decide
                have q10 : IntKind.i64.wrap 16 = 16 := by decide
                have q11 : IntKind.i64.wrap 32 = 32 := by decide
                have q12 : IntKind.u64.wrap 65536 = 65536 := by decide
                have q13 : (x : Int).tmod 65536 = (x : Int) % 65536 := by rw [Int.tmod_eq_emod_of_nonneg (by omega)]
                have S0 : W1.drew.cell? ⟨wr.heap.size, 1, none⟩ = some (.int .i64 2) ∧ W1.drew.cell? ⟨wr.heap.size, 2, none⟩ = some (.int .u64 x) := ⟨hblk.drew.cell 1, hblk.drew.cell 2⟩
                go_region_held3 (fun w' => w'.cell? ⟨wr.heap.size, 1, none⟩ = some (.int .i64 2) ∧ w'.cell? ⟨wr.heap.size, 2, none⟩ = some (.int .u64 x))
                  (first | (with_reducible exact S0) | (with_reducible exact S5) | (with_reducible assumption))
                  ((go_at_call 30; refine (HG.out _ hBd).mono ?_; rintro e w5 ⟨rfl, hR5⟩; have k5 := hR5.2.bk hblk.drew hpr (by simp); have S5 : w5.cell? ⟨wr.heap.size, 1, none⟩ = some (.int .i64 2) ∧ w5.cell? ⟨wr.heap.size, 2, none⟩ = some (.int .u64 x) := ⟨k5.cell 1, k5.cell 2⟩))
                all_goals
                  clear q8 q9 q10 q11 q12 q13 S0 S5
                  obtain ⟨hR6, hB6, hs6⟩ := rdone_at hR5 (below_tr hB1 hBd) hp2w (below_tr hB1 hBd).size
                  have CBd := Lib.hid (bad_any w5 hR6)
                  clear hR5
                  go_wp2_with fail
                  refine CBd.out.mono ?_
                  rintro e w6 ⟨rfl, rfl⟩
                  go_wp2_with fail
                  exact ⟨⟨j + 1, hj1, by go_num, by rw [HRE.out]; exact hR6, hB6⟩, by simp [intOf]; omega⟩
              · have HG := Lib.hid (fun w1 hb => (CG.out w1 hb).mono (R' := fun e w' => e = .returned (.int .u64 ((x : Int) % 4294967296)) ∧ RDone w1 w' p2 r2 rest false) (fun e w' ⟨h1, h2⟩ => ⟨by rw [h1]; simp, h2⟩))
                clear CG
                go_wp2_with fail
                rw [show wr.alloc (.cells #[.int .i64 0, .int .i64 4, .int .u64 x, .string S] 68) = W1 from HW.out.symm]
                have hBd : Below W1.heap.size W1 W1.drew := (Below.refl _ _).drew
                have q8 : IntKind.i64.wrap (8 * 4) = 8 * 4 := by decide
                have q9 : IntKind.i64.wrap 8 = 8 := by decide
                have q10 : IntKind.i64.wrap 16 = 16 := by decide
                have q11 : IntKind.i64.wrap 32 = 32 := by decide
                have q12 : IntKind.u64.wrap 4294967296 = 4294967296 := by decide
                have q13 : (x : Int).tmod 4294967296 = (x : Int) % 4294967296 := by rw [Int.tmod_eq_emod_of_nonneg (by omega)]
                have S0 : W1.drew.cell? ⟨wr.heap.size, 1, none⟩ = some (.int .i64 4) ∧ W1.drew.cell? ⟨wr.heap.size, 2, none⟩ = some (.int .u64 x) := ⟨hblk.drew.cell 1, hblk.drew.cell 2⟩
                go_region_held3 (fun w' => w'.cell? ⟨wr.heap.size, 1, none⟩ = some (.int .i64 4) ∧ w'.cell? ⟨wr.heap.size, 2, none⟩ = some (.int .u64 x))
                  (first | (with_reducible exact S0) | (with_reducible exact S5) | (with_reducible assumption))
                  ((go_at_call 30; refine (HG.out _ hBd).mono ?_; rintro e w5 ⟨rfl, hR5⟩; have k5 := hR5.2.bk hblk.drew hpr (by simp); have S5 : w5.cell? ⟨wr.heap.size, 1, none⟩ = some (.int .i64 4) ∧ w5.cell? ⟨wr.heap.size, 2, none⟩ = some (.int .u64 x) := ⟨k5.cell 1, k5.cell 2⟩))
                all_goals
                  clear q8 q9 q10 q11 q12 q13 S0 S5
                  obtain ⟨hR6, hB6, hs6⟩ := rdone_at hR5 (below_tr hB1 hBd) hp2w (below_tr hB1 hBd).size
                  have CBd := Lib.hid (bad_any w5 hR6)
                  clear hR5
                  go_wp2_with fail
                  refine CBd.out.mono ?_
                  rintro e w6 ⟨rfl, rfl⟩
                  go_wp2_with fail
                  exact ⟨⟨j + 1, hj1, by go_num, by rw [HRE.out]; exact hR6, hB6⟩, by simp [intOf]; omega⟩
              · have HG := Lib.hid (fun w1 hb => (CG.out w1 hb).mono (R' := fun e w' => e = .returned (.int .u64 (x : Int)) ∧ RDone w1 w' p2 r2 rest false) (fun e w' ⟨h1, h2⟩ => ⟨by rw [h1, Nat.mod_eq_of_lt (by omega)], h2⟩))
                clear CG
                go_wp2_with fail
                rw [show wr.alloc (.cells #[.int .i64 0, .int .i64 8, .int .u64 x, .string S] 68) = W1 from HW.out.symm]
                have hBd : Below W1.heap.size W1 W1.drew := (Below.refl _ _).drew
                have S0 : W1.drew.cell? ⟨wr.heap.size, 2, none⟩ = some (.int .u64 x) ∧ True := ⟨hblk.drew.cell 2, trivial⟩
                go_region_held3 (fun w' => w'.cell? ⟨wr.heap.size, 2, none⟩ = some (.int .u64 x) ∧ True)
                  (first | (with_reducible exact S0) | (with_reducible exact S5) | (with_reducible assumption))
                  ((go_at_call 30; refine (HG.out _ hBd).mono ?_; rintro e w5 ⟨rfl, hR5⟩; have k5 := hR5.2.bk hblk.drew hpr (by simp); have S5 : w5.cell? ⟨wr.heap.size, 2, none⟩ = some (.int .u64 x) ∧ True := ⟨k5.cell 2, trivial⟩))
                all_goals
                  clear S0 S5
                  obtain ⟨hR6, hB6, hs6⟩ := rdone_at hR5 (below_tr hB1 hBd) hp2w (below_tr hB1 hBd).size
                  have CBd := Lib.hid (bad_any w5 hR6)
                  clear hR5
                  go_wp2_with fail
                  refine CBd.out.mono ?_
                  rintro e w6 ⟨rfl, rfl⟩
                  go_wp2_with fail
                  exact ⟨⟨j + 1, hj1, by go_num, by rw [HRE.out]; exact hR6, hB6⟩, by simp [intOf]; omega⟩
            · have hstB : stB ((0 : Int), nn, x, S) = [] := by simp [stB, hw]
              rw [hstB, List.nil_append] at hR1
              have q1 : (nn == 1) = false := by simp; exact fun e => hw (.inl e)
              have q2 : (nn == 2) = false := by simp; exact fun e => hw (.inr (.inl e))
              have q3 : (nn == 4) = false := by simp; exact fun e => hw (.inr (.inr (.inl e)))
              have q4 : (nn == 8) = false := by simp; exact fun e => hw (.inr (.inr (.inr e)))
              have CBd := Lib.hid (bad_any _ hR1)
              clear hstB hw
              go_wp2_with fail
              refine CBd.out.mono ?_
              rintro e w6 ⟨rfl, rfl⟩
              go_wp2_with fail
              exact ⟨⟨j + 1, hj1, by go_num, by rw [HRE.out]; exact hR1, hB1⟩, by simp [intOf]; omega⟩
          · by_cases hk1 : k = 1
            · subst hk1
              have hstB : stB ((1 : Int), nn, x, S) = putL x 8 := by simp [stB]
              rw [hstB] at hR1 hlt4
              obtain ⟨W1, hW1⟩ : ∃ W1, W1 = wr.alloc (.cells #[.int .i64 1, .int .i64 nn, .int .u64 x, .string S] 68) := ⟨_, rfl⟩
              rw [← hW1] at hblk hBal hR1 hB1
              have HW := Lib.hid hW1
              have HG := Lib.hid (fun w1 (hb : Below W1.heap.size W1 w1) => int_put x hu w1 (hR1.below hb) (by omega))
              clear hW1 hstB
              go_wp2_with fail
              rw [← HW.out]
              have hBd : Below W1.heap.size W1 W1.drew := (Below.refl _ _).drew
              have S0 : W1.drew.cell? ⟨wr.heap.size, 2, none⟩ = some (.int .u64 x) ∧ True := ⟨hblk.drew.cell 2, trivial⟩
              go_region_held3 (fun w' => w'.cell? ⟨wr.heap.size, 2, none⟩ = some (.int .u64 x) ∧ True)
                (first | (with_reducible exact S0) | (with_reducible exact S5) | (with_reducible assumption))
                ((go_at_call 31; refine (HG.out _ hBd).mono ?_; rintro e w5 ⟨rfl, hR5⟩; have k5 := hR5.2.bk hblk.drew hpr (by simp); have S5 : w5.cell? ⟨wr.heap.size, 2, none⟩ = some (.int .u64 x) ∧ True := ⟨k5.cell 2, trivial⟩))
              all_goals
                clear S0 S5
                obtain ⟨hR6, hB6, hs6⟩ := rdone_at hR5 (below_tr hB1 hBd) hp2w (below_tr hB1 hBd).size
                have CBd := Lib.hid (bad_any w5 hR6)
                clear hR5
                go_wp2_with fail
                refine CBd.out.mono ?_
                rintro e w6 ⟨rfl, rfl⟩
                go_wp2_with fail
                exact ⟨⟨j + 1, hj1, by go_num, by rw [HRE.out]; exact hR6, hB6⟩, by simp [intOf]; omega⟩
            · have q1 : (k == 0) = false := by simpa using hk0
              have q2 : (k == 1) = false := by simpa using hk1
              have hstB : stB (k, nn, x, S) = putL (min S.size 255) 1 ++ S.data.toList.take 255 := by simp [stB, hk0, hk1]
              rw [hstB] at hR1 hlt4
              obtain ⟨W1, hW1⟩ : ∃ W1, W1 = wr.alloc (.cells #[.int .i64 k, .int .i64 nn, .int .u64 x, .string S] 68) := ⟨_, rfl⟩
              rw [← hW1] at hblk hBal hR1 hB1
              have HW := Lib.hid hW1
              clear hW1 hstB hk0 hk1
              have hzz2 := hzz
              unfold maxLen at hzz2
              by_cases h255 : S.size ≤ 255
              · rw [show min S.size 255 = S.size by omega, List.take_of_length_le (by rw [Array.length_toList]; exact h255)] at hR1 hlt4
                have HG := Lib.hid (fun w1 (hb : Below W1.heap.size W1 w1) => text_put S h255 w1 (hR1.below hb) (by omega))
                have h255i : (S.size : Int) ≤ 255 := by omega
                have hnlt : ((255 : Int) < (S.size : Int)) = False := eq_false (by omega)
                go_wp2_with fail
                rw [← HW.out]
                have hBd : Below W1.heap.size W1 W1.drew := (Below.refl _ _).drew
                have S0 : W1.drew.cell? ⟨wr.heap.size, 3, none⟩ = some (.string S) ∧ True := ⟨hblk.drew.cell 3, trivial⟩
                go_region_held3 (fun w' => w'.cell? ⟨wr.heap.size, 3, none⟩ = some (.string S) ∧ True)
                  (first | (with_reducible exact S0) | (with_reducible exact S5) | (with_reducible assumption))
                  ((go_at_call 32; refine (HG.out _ hBd).mono ?_; rintro e w5 ⟨rfl, hR5⟩; have k5 := hR5.2.bk hblk.drew hpr (by simp); have S5 : w5.cell? ⟨wr.heap.size, 3, none⟩ = some (.string S) ∧ True := ⟨k5.cell 3, trivial⟩))
                all_goals
                  clear S0 S5
                  obtain ⟨hR6, hB6, hs6⟩ := rdone_at hR5 (below_tr hB1 hBd) hp2w (below_tr hB1 hBd).size
                  have CBd := Lib.hid (bad_any w5 hR6)
                  clear hR5
                  go_wp2_with fail
                  refine CBd.out.mono ?_
                  rintro e w6 ⟨rfl, rfl⟩
                  go_wp2_with fail
                  exact ⟨⟨j + 1, hj1, by go_num, by rw [HRE.out]; exact hR6, hB6⟩, by simp [intOf]; omega⟩
              · have hx1 : (S.extract 0 255).size = 255 := by rw [ByteArray.size_extract]; omega
                have hx2 : S.data.toList.take 255 = (S.extract 0 255).data.toList := by
                  rw [ByteArray.data_extract, Array.toList_extract]
                  simp [List.extract]
                rw [show min S.size 255 = (S.extract 0 255).size by omega, hx2] at hR1 hlt4
                have HG := Lib.hid (fun w1 (hb : Below W1.heap.size W1 w1) => text_put (S.extract 0 255) (by omega) w1 (hR1.below hb) (by omega))
                have h255i : (255 : Int) < (S.size : Int) := by omega
                have h255j : (255 : Int) ≤ (S.size : Int) := by omega
                have hmin2 : min 255 S.size = 255 := by omega
                clear hx2 h255
                go_wp2_with fail
                rw [← HW.out]
                have hBd : Below W1.heap.size W1 W1.drew := (Below.refl _ _).drew
                have S0 : W1.drew.cell? ⟨wr.heap.size, 3, none⟩ = some (.string S) ∧ True := ⟨hblk.drew.cell 3, trivial⟩
                go_region_held3 (fun w' => w'.cell? ⟨wr.heap.size, 3, none⟩ = some (.string S) ∧ True)
                  (first | (with_reducible exact S0) | (with_reducible exact S5) | (with_reducible assumption))
                  ((go_at_call 32; refine (HG.out _ hBd).mono ?_; rintro e w5 ⟨rfl, hR5⟩; have k5 := hR5.2.bk hblk.drew hpr (by simp); have S5 : w5.cell? ⟨wr.heap.size, 3, none⟩ = some (.string S) ∧ True := ⟨k5.cell 3, trivial⟩))
                all_goals
                  clear S0 S5
                  obtain ⟨hR6, hB6, hs6⟩ := rdone_at hR5 (below_tr hB1 hBd) hp2w (below_tr hB1 hBd).size
                  have CBd := Lib.hid (bad_any w5 hR6)
                  clear hR5
                  go_wp2_with fail
                  refine CBd.out.mono ?_
                  rintro e w6 ⟨rfl, rfl⟩
                  go_wp2_with fail
                  exact ⟨⟨j + 1, hj1, by go_num, by rw [HRE.out]; exact hR6, hB6⟩, by simp [intOf]; omega⟩
        · have hnil : stsB (xs.drop j) = [] := by
            rw [List.drop_eq_nil_of_le (by rw [← HN.out]; omega)]
            rfl
          rw [hnil] at hR hlt4
          have CE := Lib.hid (end_any wr hR (by simp))
          have CL := Lib.hid (left_any wr hR (by simp))
          simp only [List.isEmpty_nil, Bool.not_false, Bool.true_and, Bool.false_eq_true, if_false, List.length_nil, Int.natCast_zero] at CE CL
          have CE := Lib.hid CE.out
          have CL := Lib.hid CL.out
          clear hR hnil hlt4
          go_wp2_with fail
          refine CE.out.mono ?_
          rintro e w6 ⟨rfl, rfl⟩
          go_wp2_with fail
          refine CL.out.mono ?_
          rintro e w7 ⟨rfl, rfl⟩
          go_wp2_with fail
          go_ret
          exact ⟨rfl, hB⟩
end Go.Proofs.Ytilmmmokobhnfaa
