/-
  Plain arithmetic on lists of bits (the lowest first), no Go in sight: the value of a list, the list of a value, and what each step of the reference's sums, products and divisions does to the values.
-/
namespace Go.Proofs.Bit
set_option linter.unusedVariables false
set_option linter.unusedSimpArgs false

/-- The value. -/
def val : List Nat → Nat
  | [] => 0
  | b :: r => b + 2 * val r
/-- The bits of a value, no noughts above. -/
def bitsOf (n : Nat) : List Nat := if h : n = 0 then [] else (n % 2) :: bitsOf (n / 2)
  termination_by n
  decreasing_by omega
/-- All are 0 or 1. -/
def Bin (l : List Nat) : Prop := ∀ b ∈ l, b < 2
/-- Without noughts above. -/
def trim (l : List Nat) : List Nat := bitsOf (val l)

theorem bitsOf_zero : bitsOf 0 = [] := by rw [bitsOf]; simp
theorem bitsOf_pos {n : Nat} (h : 0 < n) : bitsOf n = (n % 2) :: bitsOf (n / 2) := by rw [bitsOf]; simp [Nat.ne_of_gt h]
theorem val_bitsOf (n : Nat) : val (bitsOf n) = n := by
  induction n using Nat.strongRecOn with
  | ind n ih =>
    rcases Nat.eq_zero_or_pos n with h | h
    · subst h; rw [bitsOf_zero]; rfl
    · rw [bitsOf_pos h, val, ih _ (by omega)]; omega
theorem bin_bitsOf (n : Nat) : Bin (bitsOf n) := by
  induction n using Nat.strongRecOn with
  | ind n ih =>
    rcases Nat.eq_zero_or_pos n with h | h
    · subst h; rw [bitsOf_zero]; intro b hb; cases hb
    · rw [bitsOf_pos h]
      intro b hb
      rcases List.mem_cons.1 hb with rfl | hb
      · omega
      · exact ih _ (by omega) b hb
theorem Bin.nil : Bin [] := by intro b hb; cases hb
theorem Bin.tail {b : Nat} {r : List Nat} (h : Bin (b :: r)) : Bin r := fun x hx => h x (List.mem_cons_of_mem _ hx)
theorem Bin.head {b : Nat} {r : List Nat} (h : Bin (b :: r)) : b < 2 := h b (List.mem_cons_self)
theorem Bin.append {l m : List Nat} (h : Bin l) (k : Bin m) : Bin (l ++ m) := fun b hb => (List.mem_append.1 hb).elim (h b) (k b)
theorem Bin.take {l : List Nat} (h : Bin l) (k : Nat) : Bin (l.take k) := fun b hb => h b (List.mem_of_mem_take hb)
theorem Bin.drop {l : List Nat} (h : Bin l) (k : Nat) : Bin (l.drop k) := fun b hb => h b (List.mem_of_mem_drop hb)
theorem Bin.one {b : Nat} (h : b < 2) : Bin [b] := by intro x hx; simp at hx; omega
theorem Bin.getD {l : List Nat} (h : Bin l) (i : Nat) : l.getD i 0 < 2 := by
  rcases Nat.lt_or_ge i l.length with hi | hi
  · have : l.getD i 0 = l[i] := by simp [List.getD, hi]
    rw [this]; exact h _ (List.getElem_mem hi)
  · have : l.getD i 0 = 0 := by simp [List.getD, hi]
    omega
theorem val_append (l m : List Nat) : val (l ++ m) = val l + 2 ^ l.length * val m := by
  induction l with
  | nil => simp [val]
  | cons b r ih => simp only [List.cons_append, val, ih, List.length_cons, Nat.pow_succ]; rw [Nat.mul_add, Nat.add_assoc]; congr 1; congr 1; rw [← Nat.mul_assoc]; congr 1; omega
theorem val_lt {l : List Nat} (h : Bin l) : val l < 2 ^ l.length := by
  induction l with
  | nil => simp [val]
  | cons b r ih => have h1 := ih h.tail; have h2 := h.head; simp only [val, List.length_cons, Nat.pow_succ]; omega
theorem val_zeros (n : Nat) : val (List.replicate n 0) = 0 := by
  induction n with
  | zero => rfl
  | succ n ih => rw [List.replicate_succ, val, ih]
theorem length_bitsOf_le {n k : Nat} (h : n < 2 ^ k) : (bitsOf n).length ≤ k := by
  induction k generalizing n with
  | zero => have : n = 0 := by simp at h; exact h
            subst this; rw [bitsOf_zero]; simp
  | succ k ih =>
    rcases Nat.eq_zero_or_pos n with h0 | h0
    · subst h0; rw [bitsOf_zero]; simp
    · rw [bitsOf_pos h0, List.length_cons]
      have := ih (n := n / 2) (by rw [Nat.pow_succ] at h; omega)
      omega
theorem length_bitsOf_gt {n k : Nat} (h : 2 ^ k ≤ n) : k < (bitsOf n).length := by
  rcases Nat.lt_or_ge k (bitsOf n).length with h1 | h1
  · exact h1
  · have h2 := val_lt (bin_bitsOf n)
    rw [val_bitsOf] at h2
    have := Nat.pow_le_pow_right (n := 2) (by omega) h1
    omega
theorem length_bitsOf_iff (n k : Nat) : (bitsOf n).length ≤ k ↔ n < 2 ^ k := by
  constructor
  · intro h
    rcases Nat.lt_or_ge n (2 ^ k) with h1 | h1
    · exact h1
    · have := length_bitsOf_gt h1; omega
  · exact length_bitsOf_le
theorem bitsOf_double (n b : Nat) (hb : b < 2) (h : 0 < 2 * n + b) : bitsOf (2 * n + b) = b :: bitsOf n := by
  rw [bitsOf_pos h]
  have h1 : (2 * n + b) % 2 = b := by omega
  have h2 : (2 * n + b) / 2 = n := by omega
  rw [h1, h2]
/-- A nought above is none. -/
theorem trim_snoc_zero (l : List Nat) : trim (l ++ [0]) = trim l := by unfold trim; rw [val_append]; simp [val]
theorem val_snoc (l : List Nat) (b : Nat) : val (l ++ [b]) = val l + 2 ^ l.length * b := by rw [val_append]; simp [val]
/-- A list whose last one isn't 0 is its own. -/
theorem bitsOf_val {l : List Nat} (h : Bin l) (hl : ∀ b, l.getLast? = some b → b ≠ 0) : bitsOf (val l) = l := by
  induction l with
  | nil => exact bitsOf_zero
  | cons b r ih =>
    have hb := h.head
    have hr : bitsOf (val r) = r := by
      refine ih h.tail fun x hx => ?_
      rcases r with _ | ⟨y, r⟩
      · cases hx
      · exact hl x (by rw [List.getLast?_cons_cons]; exact hx)
    have hpos : 0 < 2 * val r + b := by
      rcases r with _ | ⟨y, r⟩
      · have := hl b rfl; simp [val]; omega
      · rcases Nat.eq_zero_or_pos (val (y :: r)) with h0 | h0
        · rw [h0, bitsOf_zero] at hr; cases hr
        · omega
    have e : val (b :: r) = 2 * val r + b := by simp only [val]; omega
    rw [e, bitsOf_double _ _ hb hpos, hr]
theorem take_succ_snoc (l : List Nat) (k : Nat) (h : k < l.length) : l.take (k + 1) = l.take k ++ [l.getD k 0] := by
  rw [List.take_succ_eq_append_getElem h]; simp [List.getD, h]
theorem drop_cons (l : List Nat) (k : Nat) (h : k < l.length) : l.drop k = l.getD k 0 :: l.drop (k + 1) := by
  rw [List.drop_eq_getElem_cons h]; simp [List.getD, h]
theorem val_take_succ (l : List Nat) (k : Nat) : val (l.take (k + 1)) = val (l.take k) + 2 ^ k * l.getD k 0 := by
  rcases Nat.lt_or_ge k l.length with h | h
  · rw [take_succ_snoc l k h, val_snoc, List.length_take, Nat.min_eq_left (by omega)]
  · rw [List.take_of_length_le (by omega), List.take_of_length_le (by omega)]
    simp [List.getD, h]
theorem val_drop_succ (l : List Nat) (k : Nat) : val (l.drop k) = 2 * val (l.drop (k + 1)) + l.getD k 0 := by
  rcases Nat.lt_or_ge k l.length with h | h
  · rw [drop_cons l k h, val]; omega
  · rw [List.drop_eq_nil_of_le h, List.drop_eq_nil_of_le (by omega)]
    simp [List.getD, h, val]
theorem val_take_drop (l : List Nat) (k : Nat) (h : k ≤ l.length) : val l = val (l.take k) + 2 ^ k * val (l.drop k) := by
  have e := val_append (l.take k) (l.drop k)
  rw [List.take_append_drop, List.length_take, Nat.min_eq_left h] at e
  exact e
theorem val_take_all (l : List Nat) (k : Nat) (h : l.length ≤ k) : val (l.take k) = val l := by rw [List.take_of_length_le h]
theorem val_take_lt {l : List Nat} (h : Bin l) (k : Nat) : val (l.take k) < 2 ^ k := by
  have h1 := val_lt (h.take k)
  have h2 : (l.take k).length ≤ k := List.length_take_le _ _
  have := Nat.pow_le_pow_right (n := 2) (by omega) h2
  omega
theorem val_split (l : List Nat) (k : Nat) : val l = val (l.take k) + 2 ^ k * l.getD k 0 + 2 ^ k * (2 * val (l.drop (k + 1))) := by
  rcases Nat.lt_or_ge k l.length with h | h
  · rw [val_take_drop l k (by omega), val_drop_succ, Nat.mul_add]
    omega
  · rw [List.take_of_length_le h, List.drop_eq_nil_of_le (by omega)]
    simp [List.getD, h, val]
theorem val_set {l : List Nat} (k x : Nat) (h : k < l.length) (h0 : l.getD k 0 = 0) : val (l.set k x) = val l + 2 ^ k * x := by
  induction l generalizing k with
  | nil => simp at h
  | cons b r ih =>
    cases k with
    | zero => simp at h0; subst h0; simp [val]; omega
    | succ k => simp only [List.set_cons_succ, val]; rw [ih k (by simpa using h) (by simpa using h0), Nat.pow_succ, Nat.mul_add, Nat.add_assoc]; congr 1; congr 1; rw [← Nat.mul_assoc]; congr 1; omega
theorem val_take_mod {l : List Nat} (h : Bin l) (k : Nat) : val (l.take k) = val l % 2 ^ k := by
  rcases Nat.lt_or_ge k l.length with hk | hk
  · have e := val_take_drop l k (by omega)
    have hlt := val_take_lt h k
    rw [e, Nat.add_mul_mod_self_left, Nat.mod_eq_of_lt hlt]
  · rw [val_take_all l k hk, Nat.mod_eq_of_lt]
    have := val_lt h
    have := Nat.pow_le_pow_right (n := 2) (by omega) hk
    omega
theorem val_drop_div {l : List Nat} (h : Bin l) (k : Nat) : val (l.drop k) = val l / 2 ^ k := by
  rcases Nat.lt_or_ge k l.length with hk | hk
  · have e := val_take_drop l k (by omega)
    have hlt := val_take_lt h k
    rw [e, Nat.add_mul_div_left _ _ (Nat.two_pow_pos k), Nat.div_eq_of_lt hlt, Nat.zero_add]
  · rw [List.drop_eq_nil_of_le hk, Nat.div_eq_of_lt]
    · rfl
    · have := val_lt h
      have := Nat.pow_le_pow_right (n := 2) (by omega) hk
      omega
theorem val_low (x : Nat) : val ((bitsOf x).take 64) = x % 18446744073709551616 := by rw [val_take_mod (bin_bitsOf x), val_bitsOf]
theorem val_high (x : Nat) : val (((bitsOf x).take 128).drop 64) = x / 18446744073709551616 % 18446744073709551616 := by
  rw [val_drop_div ((bin_bitsOf x).take _), val_take_mod (bin_bitsOf x), val_bitsOf]
  show x % 340282366920938463463374607431768211456 / 18446744073709551616 = _
  omega
end Go.Proofs.Bit
