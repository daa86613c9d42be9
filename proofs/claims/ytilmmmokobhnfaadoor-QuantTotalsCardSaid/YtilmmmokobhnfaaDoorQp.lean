/-
  The walk of package quant's Parse.
-/
import Derived.Test.YtilmmmokobhnfaaDoorQs
import Derived.Test.YtilmmmokobhnfaaDoorShelf
import Derived.Test.YtilmmmokobhnfaaDoorRow
namespace Go.Proofs.YtilmmmokobhnfaaDoor
open Go.RowKit Go.Proofs.Mem Go.Proofs.Qn
set_option linter.unusedVariables false
set_option linter.unusedSimpArgs false
/-- A wide number as it is handed on: 128 bits in two words. -/
def WideIs (N : Nat) (w : World) (e : Ending) (w' : World) : Prop := ∃ h l : Nat, e = .returned (.agg #[.int .u64 h, .int .u64 l]) ∧ N = h * 18446744073709551616 + l ∧ h < 18446744073709551616 ∧ l < 18446744073709551616 ∧ Below w.heap.size w w'
theorem wof_any (a b : Nat) (w : World) (ha : a < 18446744073709551616) (hb : b < 18446744073709551616) :
    Calls Tryd.prog 26 #[.int .u64 a, .int .u64 b] w (WideIs (a * b) w) := by
  have hlt : a * b / 18446744073709551616 < 18446744073709551616 := by
    rw [Nat.div_lt_iff_lt_mul (by omega)]
    exact Nat.mul_lt_mul'' ha hb
  have e := Nat.div_add_mod' (a * b) 18446744073709551616
  have hm : a * b % 18446744073709551616 < 18446744073709551616 := Nat.mod_lt _ (by omega)
  have C := Lib.hid (fun w1 => Tryd.bits_Mul64 a b ha hb w1)
  generalize a * b / 18446744073709551616 = h at *
  generalize a * b % 18446744073709551616 = l at *
  have HE := Lib.hid e
  have H1 := Lib.hid hlt
  have H2 := Lib.hid hm
  clear e hlt hm ha hb
  go_enter Tryd.func26, Tryd.ntmps26
  go_wp2_with (go_at_call 31; refine (C.out _).mono ?_; rintro e w' ⟨rfl, rfl⟩)
  exact bodyPost_ret (v := .agg #[.int .u64 h, .int .u64 l]) (by simp [results, Tryd.results26, go_sem]) rfl ⟨h, l, rfl, HE.out.symm, H1.out, H2.out, (Below.refl _ _).alloc (Nat.le_refl _) _⟩
theorem scaleN_le (u : List UInt8) : scaleN u ≤ 1073741824000 := by
  unfold scaleN
  repeat' (split; omega)
  omega
theorem digits_step {l : List UInt8} {k : Nat} {c : UInt8} (h : l[k]? = some c) (hc : isDig c = true) (hd : ∀ x ∈ l.take k, isDig x = true) : ∀ x ∈ l.take (k + 1), isDig x = true := by
  intro x hx
  rw [List.take_add_one, h] at hx
  rcases List.mem_append.1 hx with hx | hx
  · exact hd x hx
  · simp at hx; subst hx; exact hc
theorem ndig_at {l : List UInt8} {k : Nat} (hk : k ≤ l.length) (hd : ∀ x ∈ l.take k, isDig x = true) (hn : ∀ c, l[k]? = some c → isDig c = false) : ndig l = k := by
  unfold ndig
  induction l generalizing k with
  | nil => simp at hk; subst hk; rfl
  | cons a l ih =>
    cases k with
    | zero =>
      have := hn a rfl
      rw [List.takeWhile_cons, this]
      rfl
    | succ k =>
      have ha := hd a (by simp)
      rw [List.takeWhile_cons, ha, if_pos rfl, List.length_cons, ih (by simpa using hk) (fun x hx => hd x (by simp [hx])) (fun c hc => hn c (by simpa using hc))]
theorem drop_extract (s : ByteArray) (k : Nat) : (s.extract k s.size).data.toList = s.data.toList.drop k := by
  rw [ByteArray.data_extract, Array.toList_extract]
  simp only [List.extract]
  exact List.take_of_length_le (by rw [List.length_drop]; exact Nat.le_refl _)
theorem take_extract (s : ByteArray) (k : Nat) : (s.extract 0 k).data.toList = s.data.toList.take k := by
  rw [ByteArray.data_extract, Array.toList_extract]
  simp [List.extract]
theorem parseR_form {l : List UInt8} {k sc : Nat} (hk : ndig l = k) (hs : scaleN (l.drop k) = sc) (h : k = 0 ∨ sc = 0 ∨ (1 < k ∧ l[0]? = some 48)) : parseR l = (0, 2) := by
  unfold parseR
  rw [hk, hs, if_pos h]
theorem parseR_many {l : List UInt8} {k sc : Nat} (hk : ndig l = k) (hs : scaleN (l.drop k) = sc) (h : ¬ (k = 0 ∨ sc = 0 ∨ (1 < k ∧ l[0]? = some 48))) (h19 : 19 < k) : parseR l = (0, 3) := by
  unfold parseR
  rw [hk, hs, if_neg h, if_pos]
  have hd := digs l
  rw [hk] at hd
  have hkl := ndig_le l
  have hmin : min k l.length = k := Nat.min_eq_left (by rw [← hk]; exact hkl)
  obtain ⟨c, m, hm⟩ : ∃ c m, l.take k = c :: m := by
    cases hm : l.take k with
    | nil =>
      have := congrArg List.length hm
      rw [List.length_take, hmin] at this
      simp at this
      omega
    | cons c m => exact ⟨c, m, rfl⟩
  have hl : m.length + 1 = k := by
    have := congrArg List.length hm
    rw [List.length_take, hmin] at this
    simp at this
    omega
  have hc0 : l[0]? = some c := by
    have := congrArg (·[0]?) hm
    simp only [List.getElem?_cons_zero] at this
    rw [List.getElem?_take_of_lt (by omega)] at this
    exact this
  have hc : c ≠ 48 := fun e => h (.inr (.inr ⟨by omega, by rw [hc0, e]⟩))
  have hge := decV_ge c m (hd c (by rw [hm]; simp)) hc
  have hp : 10 ^ 19 ≤ 10 ^ m.length := Nat.pow_le_pow_right (by omega) (by omega)
  have hsc : 1 ≤ sc := by
    rcases Nat.eq_zero_or_pos sc with e | e
    · exact absurd (.inr (.inl e)) h
    · exact e
  rw [hm]
  have := Nat.le_mul_of_pos_right (decV (c :: m)) hsc
  omega
theorem parseR_over {l : List UInt8} {k sc : Nat} (hk : ndig l = k) (hs : scaleN (l.drop k) = sc) (h : ¬ (k = 0 ∨ sc = 0 ∨ (1 < k ∧ l[0]? = some 48))) (h2 : 9007199254740992 < decV (l.take k) * sc) : parseR l = (0, 3) := by
  unfold parseR
  rw [hk, hs, if_neg h, if_pos h2]
theorem parseR_ok {l : List UInt8} {k sc : Nat} (hk : ndig l = k) (hs : scaleN (l.drop k) = sc) (h : ¬ (k = 0 ∨ sc = 0 ∨ (1 < k ∧ l[0]? = some 48))) (h2 : decV (l.take k) * sc ≤ 9007199254740992) : parseR l = (decV (l.take k) * sc, 0) := by
  unfold parseR
  rw [hk, hs, if_neg h, if_neg (by omega)]
theorem parse_uint {s : ByteArray} {k : Nat} (hk : ndig s.data.toList = k) (h0 : k ≠ 0) (h19 : k ≤ 19) (hs : k ≤ s.size) (w : World) :
    Calls Tryd.prog 25 #[.string (s.extract 0 k), .int .i64 10, .int .i64 64] w fun e w' => e = .returned (.tuple #[.int .u64 (decV (s.data.toList.take k)), .nilIface]) ∧ Below w.heap.size w w' := by
  have hl : (s.data.toList.take k).length = k := by
    rw [List.length_take]
    have : s.data.toList.length = s.size := rfl
    omega
  have hd := digs s.data.toList
  rw [hk] at hd
  have hm := parse_mag (s.data.toList.take k) (fun e => by rw [e] at hl; simp at hl; omega) hd (by omega)
  have hne : s.data.toList.take k ≠ [] := fun e => by rw [e] at hl; simp at hl; omega
  refine (Tryd.strconv_ParseUint_10_at64_ok (s.extract 0 k) (by rw [ByteArray.size_extract]; omega) (decV (s.data.toList.take k)) ?_ w).mono ?_
  · rw [take_extract]
    unfold Lib.parseMag at hm
    rw [if_neg hne] at hm
    unfold Lib.parseUintB
    rw [if_neg hne, show (2 : Nat) ^ 64 - 1 = 18446744073709551615 by decide, Lib.parseUintM_64]
    exact hm
  · rintro e w' ⟨he, hw⟩
    refine ⟨he, ?_⟩
    rcases hw with rfl | rfl
    · exact Below.refl _ _
    · exact Lib.bytesWorld_below _ _ _
end Go.Proofs.YtilmmmokobhnfaaDoor
