/-
  Plain laws of the octets: a number's bytes are read again, and the bytes that were read are the number's; decoders.
-/
import Derived.Test.YthdjfcfbmmmmcaaOct6
namespace Go.Proofs.Ythdjfcfbmmmmcaa
set_option linter.unusedVariables false
theorem leV_snoc (b : UInt8) : ∀ bs : List UInt8, leV (bs ++ [b]) = leV bs + 256 ^ bs.length * b.toNat
  | [] => by simp [leV]
  | a :: bs => by
    have h := leV_snoc b bs
    have e1 : leV (a :: bs ++ [b]) = leV (bs ++ [b]) * 256 + a.toNat := rfl
    have e2 : leV (a :: bs) = leV bs * 256 + a.toNat := rfl
    rw [e1, e2, h, List.length_cons, Nat.pow_succ]
    grind
theorem leV_lt : ∀ bs : List UInt8, leV bs < 256 ^ bs.length
  | [] => by simp [leV]
  | a :: bs => by
    have h := leV_lt bs
    have e2 : leV (a :: bs) = leV bs * 256 + a.toNat := rfl
    have := a.toNat_lt
    rw [e2, List.length_cons, Nat.pow_succ]
    omega
theorem putL_congr : ∀ (k x y : Nat), x % 256 ^ k = y % 256 ^ k → putL x k = putL y k
  | 0, _, _, _ => rfl
  | k + 1, x, y, h => by
    rw [Nat.pow_succ, Nat.mod_mul, Nat.mod_mul] at h
    have hp : 0 < 256 ^ k := Nat.pow_pos (by omega)
    have hx := Nat.mod_lt x hp
    have hy := Nat.mod_lt y hp
    have h1 : x % 256 ^ k = y % 256 ^ k := by
      have := congrArg (· % 256 ^ k) h
      simpa [Nat.add_mul_mod_self_left] using this
    have h2 : x / 256 ^ k % 256 = y / 256 ^ k % 256 := by
      rw [h1] at h
      exact Nat.eq_of_mul_eq_mul_left hp (Nat.add_left_cancel h)
    simp only [putL]
    rw [putL_congr k x y h1, h2]
theorem putL_leV (bs : List UInt8) : putL (leV bs) bs.length = bs := by
  have key : ∀ n (bs : List UInt8), bs.length = n → putL (leV bs) n = bs := by
    intro n
    induction n with
    | zero => intro bs h; rw [List.eq_nil_of_length_eq_zero h]; rfl
    | succ n ih =>
      intro bs h
      have hne : bs ≠ [] := by intro e; rw [e] at h; simp at h
      obtain ⟨l, b, rfl⟩ : ∃ l b, bs = l ++ [b] := ⟨bs.dropLast, bs.getLast hne, (List.dropLast_concat_getLast hne).symm⟩
      have hl : l.length = n := by simpa using h
      have hlt := leV_lt l
      rw [hl] at hlt
      simp only [putL]
      rw [leV_snoc, hl]
      have e1 : putL (leV l + 256 ^ n * b.toNat) n = l := by
        rw [putL_congr n _ (leV l) (by rw [Nat.add_mul_mod_self_left]), ih l hl]
      have e2 : (leV l + 256 ^ n * b.toNat) / 256 ^ n % 256 = b.toNat := by
        rw [Nat.add_mul_div_left _ _ (Nat.pow_pos (by omega)), Nat.div_eq_of_lt hlt, Nat.zero_add]
        exact Nat.mod_eq_of_lt b.toNat_lt
      rw [e1, e2, UInt8.ofNat_toNat]
  exact key _ bs rfl
/-- A decoder: what is read and what is left, or nothing. -/
abbrev Dec (α : Type) := List UInt8 → Option (α × List UInt8)
def dNum (n : Nat) : Dec Nat := fun bs => if n ≤ bs.length then some (leV (bs.take n), bs.drop n) else none
def dTake (n : Nat) : Dec (List UInt8) := fun bs => if n ≤ bs.length then some (bs.take n, bs.drop n) else none
def Dec.then {α β : Type} (d : Dec α) (f : α → Dec β) : Dec β := fun bs => match d bs with | none => none | some (x, r) => f x r
def dText : Dec (List UInt8) := (dNum 1).then dTake
def dRow {α : Type} (d : Dec α) : Nat → Dec (List α)
  | 0 => fun bs => some ([], bs)
  | n + 1 => d.then fun x => (dRow d n).then fun l bs => some (x :: l, bs)
/-- The decoder reads just what the coder writes. -/
structure Codec {α : Type} (e : α → List UInt8) (ok : α → Prop) (d : Dec α) : Prop where
  back : ∀ x rest, ok x → d (e x ++ rest) = some (x, rest)
  just : ∀ bs x rest, d bs = some (x, rest) → ok x ∧ e x ++ rest = bs
theorem codec_num (n : Nat) : Codec (fun x => putL x n) (fun x => x < 256 ^ n) (dNum n) := by
  refine ⟨fun x rest hx => ?_, fun bs x rest h => ?_⟩
  · unfold dNum
    rw [if_pos (by rw [List.length_append, putL_len]; omega)]
    have h1 : (putL x n ++ rest).take n = putL x n := by
      have := List.take_left (l₁ := putL x n) (l₂ := rest); rwa [putL_len] at this
    have h2 : (putL x n ++ rest).drop n = rest := by
      have := List.drop_left (l₁ := putL x n) (l₂ := rest); rwa [putL_len] at this
    rw [h1, h2, leV_putL, Nat.mod_eq_of_lt hx]
  · unfold dNum at h
    split at h
    · rename_i hn
      simp only [Option.some.injEq, Prod.mk.injEq] at h
      obtain ⟨rfl, rfl⟩ := h
      have hl : (bs.take n).length = n := by rw [List.length_take]; omega
      have h1 := leV_lt (bs.take n)
      have h2 := putL_leV (bs.take n)
      rw [hl] at h1 h2
      exact ⟨h1, by show putL _ n ++ _ = bs; rw [h2, List.take_append_drop]⟩
    · cases h
theorem codec_text : Codec (fun s : List UInt8 => putL s.length 1 ++ s) (fun s => s.length < 256) dText := by
  refine ⟨fun s rest hs => ?_, fun bs s rest h => ?_⟩
  · show (dNum 1).then dTake (putL s.length 1 ++ s ++ rest) = _
    unfold Dec.then
    rw [List.append_assoc, (codec_num 1).back s.length (s ++ rest) (by simpa using hs)]
    show dTake s.length (s ++ rest) = _
    unfold dTake
    rw [if_pos (by rw [List.length_append]; omega), List.take_left, List.drop_left]
  · unfold dText Dec.then at h
    split at h
    · cases h
    · rename_i n r hn
      obtain ⟨h1, h2⟩ := (codec_num 1).just _ _ _ hn
      unfold dTake at h
      split at h
      · rename_i hle
        simp only [Option.some.injEq, Prod.mk.injEq] at h
        obtain ⟨rfl, rfl⟩ := h
        have hl : (r.take n).length = n := by rw [List.length_take]; omega
        refine ⟨by rw [hl]; simpa using h1, ?_⟩
        show putL _ 1 ++ _ ++ _ = bs
        rw [hl, List.append_assoc, List.take_append_drop]
        exact h2
      · cases h
theorem codec_row {α : Type} {e : α → List UInt8} {ok : α → Prop} {d : Dec α} (h : Codec e ok d) : ∀ n, Codec (fun l : List α => l.flatMap e) (fun l => l.length = n ∧ ∀ x ∈ l, ok x) (dRow d n)
  | 0 => ⟨fun l rest hl => by
      obtain rfl := List.eq_nil_of_length_eq_zero hl.1
      rfl, fun bs l rest hd => by
      simp only [dRow, Option.some.injEq, Prod.mk.injEq] at hd
      obtain ⟨rfl, rfl⟩ := hd
      exact ⟨⟨rfl, by simp⟩, rfl⟩⟩
  | n + 1 => ⟨fun l rest hl => by
      obtain ⟨hl, hk⟩ := hl
      cases l with
      | nil => simp at hl
      | cons x l =>
        show (d.then fun x => (dRow d n).then fun l bs => some (x :: l, bs)) _ = _
        simp only [Dec.then]
        rw [List.flatMap_cons, List.append_assoc, h.back x _ (hk x List.mem_cons_self)]
        dsimp only
        rw [(codec_row h n).back l rest ⟨by simpa using hl, fun y hy => hk y (List.mem_cons_of_mem _ hy)⟩], fun bs l rest hd => by
      have hd' : (d.then fun x => (dRow d n).then fun l bs => some (x :: l, bs)) bs = some (l, rest) := hd
      simp only [Dec.then] at hd'
      split at hd'
      · cases hd'
      · rename_i x r hx
        split at hd'
        · cases hd'
        · rename_i y r2 hy
          simp only [Option.some.injEq, Prod.mk.injEq] at hd'
          obtain ⟨rfl, rfl⟩ := hd'
          obtain ⟨o1, e1⟩ := h.just _ _ _ hx
          obtain ⟨⟨o2, o3⟩, e2⟩ := (codec_row h n).just _ _ _ hy
          refine ⟨⟨by simp [o2], fun z hz => ?_⟩, ?_⟩
          · rcases List.mem_cons.1 hz with rfl | hz
            · exact o1
            · exact o3 z hz
          · show (x :: y).flatMap e ++ r2 = bs
            rw [List.flatMap_cons, List.append_assoc, e2, e1]⟩
theorem codec_rows {α : Type} {e : α → List UInt8} {ok : α → Prop} {d : Dec α} (h : Codec e ok d) : Codec (fun l : List α => putL l.length 1 ++ l.flatMap e) (fun l => l.length < 256 ∧ ∀ x ∈ l, ok x) ((dNum 1).then (dRow d)) := by
  refine ⟨fun l rest hl => ?_, fun bs l rest hd => ?_⟩
  · unfold Dec.then
    rw [List.append_assoc, (codec_num 1).back l.length _ (by simpa using hl.1)]
    exact (codec_row h l.length).back l rest ⟨rfl, hl.2⟩
  · unfold Dec.then at hd
    split at hd
    · cases hd
    · rename_i n r hn
      obtain ⟨h1, h2⟩ := (codec_num 1).just _ _ _ hn
      obtain ⟨⟨rfl, h4⟩, h5⟩ := (codec_row h n).just _ _ _ hd
      refine ⟨⟨by simpa using h1, h4⟩, ?_⟩
      rw [List.append_assoc, h5]
      exact h2
/-- One behind the other. -/
def dPair {α β : Type} (a : Dec α) (b : Dec β) : Dec (α × β) := a.then fun x => b.then fun y bs => some ((x, y), bs)
theorem codec_pair {α β : Type} {e1 : α → List UInt8} {o1 : α → Prop} {d1 : Dec α} {e2 : β → List UInt8} {o2 : β → Prop} {d2 : Dec β} (h : Codec e1 o1 d1) (k : Codec e2 o2 d2) :
    Codec (fun p : α × β => e1 p.1 ++ e2 p.2) (fun p => o1 p.1 ∧ o2 p.2) (dPair d1 d2) := by
  refine ⟨fun p rest hp => ?_, fun bs p rest hd => ?_⟩
  · unfold dPair Dec.then
    rw [List.append_assoc, h.back p.1 _ hp.1]
    dsimp only
    rw [k.back p.2 _ hp.2]
  · unfold dPair Dec.then at hd
    split at hd
    · cases hd
    · rename_i x r hx
      dsimp only at hd
      split at hd
      · cases hd
      · rename_i y r2 hy
        simp only [Option.some.injEq, Prod.mk.injEq] at hd
        obtain ⟨rfl, rfl⟩ := hd
        obtain ⟨o1, q1⟩ := h.just _ _ _ hx
        obtain ⟨o2, q2⟩ := k.just _ _ _ hy
        exact ⟨⟨o1, o2⟩, by rw [List.append_assoc, q2, q1]⟩
/-- The same under other names. -/
theorem codec_iso {α β : Type} {e : α → List UInt8} {o : α → Prop} {d : Dec α} (h : Codec e o d) (f : α → β) (g : β → α) (o' : β → Prop) (hfg : ∀ y, o' y → f (g y) = y ∧ o (g y)) (hgf : ∀ x, o x → g (f x) = x ∧ o' (f x)) :
    Codec (fun y => e (g y)) o' (fun bs => (d bs).map fun p => (f p.1, p.2)) := by
  refine ⟨fun y rest hy => ?_, fun bs y rest hd => ?_⟩
  · rw [h.back _ _ (hfg y hy).2]
    simp [(hfg y hy).1]
  · rw [Option.map_eq_some_iff] at hd
    obtain ⟨⟨x, r⟩, hx, e1⟩ := hd
    simp only [Prod.mk.injEq] at e1
    obtain ⟨rfl, rfl⟩ := e1
    obtain ⟨o1, q1⟩ := h.just _ _ _ hx
    exact ⟨(hgf x o1).2, by rw [(hgf x o1).1]; exact q1⟩
/-- Some only. -/
theorem codec_some {α : Type} {e : α → List UInt8} {o : α → Prop} {d : Dec α} (h : Codec e o d) (p : α → Bool) : Codec e (fun x => o x ∧ p x = true) (fun bs => (d bs).filter fun q => p q.1) := by
  refine ⟨fun x rest hx => ?_, fun bs x rest hd => ?_⟩
  · rw [h.back _ _ hx.1]
    simp [hx.2]
  · rw [Option.filter_eq_some_iff] at hd
    obtain ⟨o1, q1⟩ := h.just _ _ _ hd.1
    exact ⟨⟨o1, hd.2⟩, q1⟩
theorem codec_truth : Codec (fun b : Bool => putL (if b then 1 else 0) 1) (fun _ => True) (fun bs => ((dNum 1 bs).filter fun q => decide (q.1 ≤ 1)).map fun p => (decide (p.1 = 1), p.2)) := by
  refine codec_iso (codec_some (codec_num 1) fun x => decide (x ≤ 1)) (fun x => decide (x = 1)) (fun b => if b then 1 else 0) (fun _ => True) (fun y _ => ?_) (fun x hx => ?_)
  · cases y <;> simp
  · simp only [decide_eq_true_eq] at hx
    have : x = 0 ∨ x = 1 := by omega
    rcases this with rfl | rfl <;> simp
theorem codec_int : Codec (fun z : Int => putL (u64 z) 8) (fun z => -9223372036854775808 ≤ z ∧ z ≤ 9223372036854775807) (fun bs => (dNum 8 bs).map fun p => (if p.1 < 9223372036854775808 then (p.1 : Int) else (p.1 : Int) - 18446744073709551616, p.2)) := by
  refine codec_iso (codec_num 8) (fun x => if x < 9223372036854775808 then (x : Int) else (x : Int) - 18446744073709551616) u64 _ (fun z hz => ?_) (fun x hx => ?_)
  · unfold u64
    refine ⟨?_, by omega⟩
    split <;> omega
  · unfold u64
    have hx' : x < 18446744073709551616 := by simpa using hx
    split <;> refine ⟨?_, ?_⟩ <;> omega
end Go.Proofs.Ythdjfcfbmmmmcaa
