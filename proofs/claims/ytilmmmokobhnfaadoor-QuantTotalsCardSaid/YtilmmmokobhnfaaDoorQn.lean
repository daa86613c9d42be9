/-
  Plain Lean on decimal texts with a unit: what a text says, what a number is written as. No program in sight.
-/
import Derived.Lib.AtoiAll
import Derived.Lib.ItoaNum
namespace Go.Proofs.Qn
open Go
set_option linter.unusedVariables false
def isDig (c : UInt8) : Bool := decide (48 ≤ c.toNat) && decide (c.toNat ≤ 57)
def ndig (l : List UInt8) : Nat := (l.takeWhile isDig).length
def decV (l : List UInt8) : Nat := l.foldl (fun x c => x * 10 + (c.toNat - 48)) 0
def scaleN (u : List UInt8) : Nat :=
  if u = [109] then 1 else if u = [] then 1000 else if u = [107] then 1000000 else if u = [77] then 1000000000 else if u = [71] then 1000000000000
  else if u = [75, 105] then 1024000 else if u = [77, 105] then 1048576000 else if u = [71, 105] then 1073741824000 else 0
theorem ndig_le (l : List UInt8) : ndig l ≤ l.length := (List.takeWhile_sublist isDig).length_le
theorem decV_snoc (l : List UInt8) (c : UInt8) : decV (l ++ [c]) = decV l * 10 + (c.toNat - 48) := by simp [decV]
theorem decV_lt : ∀ (l : List UInt8), (∀ c ∈ l, isDig c = true) → decV l < 10 ^ l.length := by
  intro l
  induction h : l.length generalizing l with
  | zero => intro _; rw [List.eq_nil_of_length_eq_zero h]; simp [decV]
  | succ n ih =>
    intro hd
    rcases List.eq_nil_or_concat l with rfl | ⟨m, c, rfl⟩
    · simp at h
    · rw [List.concat_eq_append] at *
      rw [List.length_append] at h
      have h1 := ih m (by simpa using h) (fun c hc => hd c (by simp [hc]))
      have h2 := hd c (by simp)
      simp only [isDig, Bool.and_eq_true, decide_eq_true_eq] at h2
      rw [decV_snoc, Nat.pow_succ]
      omega
theorem fold_ge : ∀ (l : List UInt8) (x : Nat), x * 10 ^ l.length ≤ l.foldl (fun x c => x * 10 + (c.toNat - 48)) x
  | [], x => by simp
  | c :: l, x => by
    rw [List.foldl_cons, List.length_cons]
    refine Nat.le_trans ?_ (fold_ge l _)
    rw [Nat.pow_succ, ← Nat.mul_assoc, Nat.mul_right_comm]
    exact Nat.mul_le_mul_right _ (by omega)
/-- No nought in front: so many digits, so great a number. -/
theorem decV_ge (c : UInt8) (l : List UInt8) (hc : isDig c = true) (h0 : c ≠ 48) : 10 ^ l.length ≤ decV (c :: l) := by
  simp only [isDig, Bool.and_eq_true, decide_eq_true_eq] at hc
  have h1 : c.toNat ≠ 48 := fun e => h0 (UInt8.toNat_inj.1 (by simpa using e))
  have := fold_ge l (c.toNat - 48)
  have e : decV (c :: l) = l.foldl (fun x c => x * 10 + (c.toNat - 48)) (c.toNat - 48) := by simp [decV]
  rw [e]
  exact Nat.le_trans (Nat.le_mul_of_pos_left _ (by omega)) this
/-- The library's parse of so many digits. -/
theorem parse_digs : ∀ (l : List UInt8) (acc : Nat), (∀ c ∈ l, isDig c = true) → (acc + 1) * 10 ^ l.length ≤ 18446744073709551616 → Lib.parseUint10 acc l = .ok (l.foldl (fun x c => x * 10 + (c.toNat - 48)) acc)
  | [], acc, _, _ => rfl
  | c :: r, acc, hd, hb => by
    have hc := hd c (by simp)
    simp only [isDig, Bool.and_eq_true, decide_eq_true_eq] at hc
    rw [List.length_cons, Nat.pow_succ] at hb
    have hp : 0 < 10 ^ r.length := Nat.pow_pos (by omega)
    have h2 : (acc + 1) * 10 ≤ 18446744073709551616 := by
      refine Nat.le_trans ?_ hb
      rw [Nat.mul_comm (10 ^ r.length) 10, ← Nat.mul_assoc]
      exact Nat.le_mul_of_pos_right _ hp
    rw [Lib.parseUint10, if_pos hc, if_neg (by omega), if_neg (by omega), List.foldl_cons]
    refine parse_digs r _ (fun x hx => hd x (by simp [hx])) ?_
    refine Nat.le_trans ?_ hb
    rw [Nat.mul_comm (10 ^ r.length) 10, ← Nat.mul_assoc]
    exact Nat.mul_le_mul_right _ (by omega)
theorem parse_mag (l : List UInt8) (hl : l ≠ []) (hd : ∀ c ∈ l, isDig c = true) (h19 : l.length ≤ 19) : Lib.parseMag l = .ok (decV l) := by
  unfold Lib.parseMag
  rw [if_neg hl]
  refine parse_digs l 0 hd ?_
  have : 10 ^ l.length ≤ 10 ^ 19 := Nat.pow_le_pow_right (by omega) h19
  omega
/-- What a text says: the number, and why there is none. -/
def parseR (l : List UInt8) : Nat × Nat :=
  if ndig l = 0 ∨ scaleN (l.drop (ndig l)) = 0 ∨ (1 < ndig l ∧ l[0]? = some 48) then (0, 2)
  else if 9007199254740992 < decV (l.take (ndig l)) * scaleN (l.drop (ndig l)) then (0, 3)
  else (decV (l.take (ndig l)) * scaleN (l.drop (ndig l)), 0)
theorem take_ndig (l : List UInt8) : l.take (ndig l) = l.takeWhile isDig := by
  unfold ndig
  have := List.takeWhile_append_dropWhile (p := isDig) (l := l)
  conv => lhs; rw [← this]
  rw [List.takeWhile_append_dropWhile]
  exact List.prefix_iff_eq_take.1 (List.takeWhile_prefix isDig) |>.symm
theorem digs (l : List UInt8) : ∀ c ∈ l.take (ndig l), isDig c = true := by
  rw [take_ndig]
  intro c hc
  induction l with
  | nil => simp at hc
  | cons a l ih =>
    rw [List.takeWhile_cons] at hc
    split at hc
    · rename_i ha
      rcases List.mem_cons.1 hc with h | h
      · rw [h]; exact ha
      · exact ih h
    · simp at hc
end Go.Proofs.Qn
