/-
  The walks of package policy.
-/
import Derived.Test.YtalmhnimmhgloaaBudget
import Derived.Test.YtalmhnimmhgloaaOpen
import Derived.Test.YtalmhnimmhgloaaRow
namespace Go.Proofs.Ytalmhnimmhgloaa
open Go.RowKit Go.Proofs.Mem Go.Proofs.Bit
set_option linter.unusedVariables false
set_option linter.unusedSimpArgs false

def cnt (n : Int) : Int := max 0 (min n 1000000)
theorem cnt_bd (n : Int) : 0 ≤ cnt n ∧ cnt n ≤ 1000000 := by unfold cnt; omega
theorem count_any (n : Int) (w : World) : Calls Try.prog 35 #[.int .i64 n] w fun e w' => e = .returned (.int .i64 (cnt n)) ∧ w = w' := by
  go_enter Try.func35, Try.ntmps35
  go_wp2
  go_ret
  exact ⟨rfl, rfl⟩
/-- What was done: at a tick, from so many to so many. -/
structure Done where
  at' : Int
  from' : Int
  to' : Int
def Done.cells (x : Done) : List Value := [.int .i64 x.at', .int .i64 x.from', .int .i64 x.to']
def Done.by' (x : Done) : Int := cnt x.to' - cnt x.from'
def counts (now period : Int) (up : Bool) (x : Done) : Bool := decide (0 < period) && (decide (now - period < x.at') && (decide (0 < x.by') == up))
def net (now period : Int) (up : Bool) : List Done → Int
  | [] => 0
  | x :: xs => (if counts now period up x then x.by' else 0) + net now period up xs
theorem net_snoc (now period : Int) (up : Bool) (xs : List Done) (x : Done) : net now period up (xs ++ [x]) = net now period up xs + (if counts now period up x then x.by' else 0) := by
  induction xs with
  | nil => simp [net]
  | cons y ys ih => simp only [List.cons_append, net, ih]; omega
theorem by_bd (x : Done) : -1000000 ≤ x.by' ∧ x.by' ≤ 1000000 := by
  have h1 := cnt_bd x.to'
  have h2 := cnt_bd x.from'
  unfold Done.by'
  omega
theorem net_bd (now period : Int) (up : Bool) : ∀ xs : List Done, -(1000000 * (xs.length : Int)) ≤ net now period up xs ∧ net now period up xs ≤ 1000000 * (xs.length : Int)
  | [] => by simp [net]
  | x :: xs => by
    have h := net_bd now period up xs
    have h2 := by_bd x
    simp only [net, List.length_cons]
    split <;> omega
theorem box3 {W wr : World} {t : TypeId} {a b c : Value} (hB : Below W.heap.size W wr) :
    (wr.alloc (.cells #[a, b, c] t)).drew.cell? ⟨wr.heap.size, 0, none⟩ = some a ∧ (wr.alloc (.cells #[a, b, c] t)).drew.cell? ⟨wr.heap.size, 1, none⟩ = some b ∧ (wr.alloc (.cells #[a, b, c] t)).drew.cell? ⟨wr.heap.size, 2, none⟩ = some c ∧ Below W.heap.size W (wr.alloc (.cells #[a, b, c] t)).drew := by
  have h := (Bk.new wr t #[a, b, c]).drew
  exact ⟨h.cell 0, h.cell 1, h.cell 2, (hB.alloc hB.size _).drew⟩
/-- What a round of Start adds. -/
def StepIs (now period : Int) (up : Bool) (xs : List Done) (k : Nat) (N s : Int) : Prop := net now period up (xs.take (k + 1)) = N + s
set_option maxHeartbeats 2000000 in
theorem start_any (xs : List Done) (now period there : Int) (up : Bool) (v : Value) (w : World) (hl : xs.length ≤ 100) (h : Sl w 3 v xs.length (xs.flatMap Done.cells)) (hn : 0 ≤ now ∧ now ≤ 4611686018427387904) (hp : (Lit.int .i64 period).wf = true) :
    Calls Try.prog 59 #[v, .int .i64 now, .int .i64 period, .int .i64 there, .bool up] w fun e w' => e = .returned (.int .i64 (cnt (cnt there - net now period up xs))) ∧ Below w.heap.size w w' := by
  obtain ⟨A, c, rfl, hc, _⟩ := id h
  obtain ⟨n0, n1⟩ := hn
  go_enter Try.func59, Try.ntmps59
  go_wp2_with fail
  go_loopw [17, 11, 13, 14] (fun i s p b wr => ∃ k : Nat, k ≤ xs.length ∧ i = .int .i64 k ∧ s = .int .i64 (net now period up (xs.take k)) ∧ Below w.heap.size w wr) (fun i s p b wr => xs.length - (intOf i).toNat)
  case atStart => exact ⟨0, Nat.zero_le _, rfl, rfl, Below.refl _ _⟩
  case round =>
    obtain ⟨k, hk, rfl, rfl, hB⟩ := hrel
    by_cases hlt : k < xs.length
    · obtain ⟨b, o, rfl, hbl, hadd, hcell⟩ := Sl.row' (f := Done.cells) (fun _ => rfl) (by omega) (h.below hB) k hlt
      have a0 : wr.cell? ⟨b, o + k * 3, none⟩ = _ := hcell 0 _ rfl
      have a1 := hcell 1 _ rfl
      have a2 := hcell 2 _ rfl
      have hb := net_bd now period up (xs.take k)
      have hlen : (xs.take k).length = k := by simp; omega
      rw [hlen] at hb
      have hstep : net now period up (xs.take (k + 1)) = net now period up (xs.take k) + (if counts now period up xs[k] then xs[k].by' else 0) := by
        rw [List.take_succ_eq_append_getElem hlt, net_snoc]
      clear hcell h hlen
      generalize net now period up (xs.take k) = N at hb hstep
      generalize xs[k] = x at a0 a1 a2 hstep
      obtain ⟨t, ht⟩ : ∃ t, t = cnt x.to' := ⟨_, rfl⟩
      obtain ⟨f, hf⟩ : ∃ f, f = cnt x.from' := ⟨_, rfl⟩
      have C1 : Hid (∀ w1, Calls Try.prog 35 #[.int .i64 x.to'] w1 fun e w' => e = .returned (.int .i64 t) ∧ w1 = w') := Lib.hid (fun w1 => ht ▸ count_any _ w1)
      have C2 : Hid (∀ w1, Calls Try.prog 35 #[.int .i64 x.from'] w1 fun e w' => e = .returned (.int .i64 f) ∧ w1 = w') := Lib.hid (fun w1 => hf ▸ count_any _ w1)
      have t1 := cnt_bd x.to'
      have t2 := cnt_bd x.from'
      rw [← ht] at t1
      rw [← hf] at t2
      have hby : x.by' = t - f := by rw [ht, hf]; rfl
      rw [hby] at hstep
      have d0 : -1000000 ≤ t - f := by omega
      have d1 : t - f ≤ 1000000 := by omega
      have N0 : -100000000 ≤ N := by omega
      have N1 : N ≤ 100000000 := by omega
      have s0 : -101000000 ≤ N + (t - f) := by omega
      have s1 : N + (t - f) ≤ 101000000 := by omega
      have hpp : -9223372036854775808 ≤ period ∧ period ≤ 9223372036854775807 := by simpa [Lit.wf, IntKind.min, IntKind.max, IntKind.signed, IntKind.bits] using hp
      have hcase : (0 < period ∧ now - period < x.at' ∧ ((decide (f < t)) == up) = true ∧ StepIs now period up xs k N (t - f)) ∨ (¬ 0 < period ∧ StepIs now period up xs k N 0) ∨ (0 < period ∧ ¬ now - period < x.at' ∧ StepIs now period up xs k N 0) ∨ (0 < period ∧ now - period < x.at' ∧ ((decide (f < t)) == up) = false ∧ StepIs now period up xs k N 0) := by
        unfold StepIs
        rw [hstep]
        unfold counts
        rw [hby]
        by_cases h1 : 0 < period
        · by_cases h2 : now - period < x.at'
          · rw [show decide (0 < t - f) = decide (f < t) from decide_eq_decide.2 (by omega)]
            cases h3 : (decide (f < t)) == up
            · simp [h1, h2, h3]
            · simp [h1, h2, h3]
          · simp [h1, h2]
        · simp [h1]
      clear hstep hb ht hf hby hp
      have q0 : 0 < period → -9223372036854775808 ≤ now - period := by omega
      have q1 : 0 < period → now - period ≤ 4611686018427387904 := by omega
      rcases hcase with ⟨h1, h2, h3, hs⟩ | ⟨h1, hs⟩ | ⟨h1, h2, hs⟩ | ⟨h1, h2, h3, hs⟩
      all_goals
        have HS := Lib.hid hs
        clear hs
        try have q0 := q0 h1
        try have q1 := q1 h1
        go_wp2_with fail
        go_region_held3 (fun w' => w'.cell? ⟨wr.heap.size, 0, none⟩ = some (.int .i64 x.at') ∧ w'.cell? ⟨wr.heap.size, 1, none⟩ = some (.int .i64 x.from') ∧ w'.cell? ⟨wr.heap.size, 2, none⟩ = some (.int .i64 x.to') ∧ Below w.heap.size w w')
          (first | (exact box3 hB) | assumption) (first
          | (go_at_call 35; refine (C1.out _).mono ?_; rintro e w' ⟨rfl, rfl⟩)
          | (go_at_call 35; refine (C2.out _).mono ?_; rintro e w' ⟨rfl, rfl⟩))
        go_wp2_with fail
        all_goals first
          | exact ⟨⟨k + 1, by omega, by go_num, by have h9 := HS.out; unfold StepIs at h9; rw [h9]; try rw [Int.add_zero], (hB.alloc hB.size _).drew⟩, by simp [intOf]; omega⟩
    · have e : xs.take k = xs := List.take_of_length_le (by omega)
      have hb := net_bd now period up xs
      rw [e]
      clear e
      obtain ⟨N, hN⟩ : ∃ N, N = net now period up xs := ⟨_, rfl⟩
      obtain ⟨t, ht⟩ : ∃ t, t = cnt there := ⟨_, rfl⟩
      obtain ⟨q, hq⟩ : ∃ q, q = cnt (t - N) := ⟨_, rfl⟩
      have HQ : Hid (q = cnt (cnt there - net now period up xs)) := Lib.hid (by rw [hq, ht, hN])
      have hcb := cnt_bd there
      rw [← hN] at hb ⊢
      have C1 : Hid (∀ w1, Calls Try.prog 35 #[.int .i64 there] w1 fun e w' => e = .returned (.int .i64 t) ∧ w1 = w') := Lib.hid (fun w1 => ht ▸ count_any there w1)
      rw [← ht] at hcb
      have d0 : -101000000 ≤ t - N := by omega
      have d1 : t - N ≤ 101000000 := by omega
      have C2 : Hid (∀ w1, Calls Try.prog 35 #[.int .i64 (t - N)] w1 fun e w' => e = .returned (.int .i64 q) ∧ w1 = w') := Lib.hid (fun w1 => hq ▸ count_any (t - N) w1)
      clear hN ht hq
      clear hb
      go_wp2_with fail
      refine (C1.out _).mono ?_
      rintro e w' ⟨rfl, rfl⟩
      go_wp2_with fail
      refine (C2.out _).mono ?_
      rintro e w' ⟨rfl, rfl⟩
      go_wp2_with fail
      go_ret
      exact ⟨ret_int HQ.out, hB⟩
theorem part_any (n : Nat) (th : Int) (w : World) (hn : n ≤ 1000000) :
    Calls Try.prog 76 #[.int .i64 n, .int .i64 th] w fun e w' => e = .returned (.int .i64 (mulDivN n (cnt th).toNat 1000 true)) ∧ Below w.heap.size w w' := by
  have hb := cnt_bd th
  obtain ⟨q, hq⟩ : ∃ q, q = cnt th := ⟨_, rfl⟩
  have hq2 : max 0 (min th 1000000) = q := by rw [hq]; rfl
  rw [← hq] at hb ⊢
  have C := Lib.hid (fun w1 => percent_ok n q.toNat true w1 (by unfold okR; simp; omega) (by unfold okR; simp; omega))
  have hqq : ((q.toNat : Nat) : Int) = q := by omega
  rw [hqq] at C
  clear hq hb
  go_enter Try.func76, Try.ntmps76
  go_wp2_with fail
  refine (C.out _).mono ?_
  rintro e w1 ⟨rfl, hb⟩
  go_wp2_with fail
  go_ret
  exact ⟨rfl, hb⟩
/-- A policy. -/
structure Pol where
  pct : Bool
  value : Int
  period : Int
def Pol.cells (p : Pol) : List Value := [.bool p.pct, .int .i64 p.value, .int .i64 p.period]
def Pol.by' (p : Pol) (s : Nat) (up : Bool) : Int := if p.pct then (mulDivN s (cnt (if up then p.value else min p.value 1000)).toNat 1000 true : Nat) else cnt p.value
def limV (p : Pol) (s : Nat) (up : Bool) : Int := if up then cnt (s + p.by' s up) else cnt (s - p.by' s up)
theorem by_le (p : Pol) (s : Nat) (up : Bool) (hs : s ≤ 1000000) : 0 ≤ p.by' s up ∧ p.by' s up ≤ 1000000000 := by
  unfold Pol.by'
  split
  · have h1 := cnt_bd (if up then p.value else min p.value 1000)
    have := mulDivN_le s (cnt (if up then p.value else min p.value 1000)).toNat 1000 1000000000 true (by
      have := Nat.mul_le_mul hs (show (cnt (if up then p.value else min p.value 1000)).toNat ≤ 1000000 by omega)
      omega) (by omega)
    omega
  · have := cnt_bd p.value
    omega
theorem limit_any (p : Pol) (s : Nat) (up : Bool) (w : World) (hs : s ≤ 1000000) :
    Calls Try.prog 58 #[.agg p.cells.toArray, .int .i64 s, .bool up] w fun e w' => e = .returned (.int .i64 (limV p s up)) ∧ Below w.heap.size w w' := by
  obtain ⟨pct, value, period⟩ := p
  have hby := by_le ⟨pct, value, period⟩ s up hs
  obtain ⟨q, hq⟩ : ∃ q, q = limV ⟨pct, value, period⟩ s up := ⟨_, rfl⟩
  rw [← hq]
  unfold limV at hq
  obtain ⟨b, hb⟩ : ∃ b, b = (Pol.mk pct value period).by' s up := ⟨_, rfl⟩
  rw [← hb] at hby hq
  obtain ⟨b0, b1⟩ := hby
  have C1 := Lib.hid (fun w1 => count_any value w1)
  have C2 := Lib.hid (fun th w1 => part_any s th w1 hs)
  unfold Pol.by' at hb
  have d0 : (s : Int) + b ≤ 1001000000 := by omega
  have d1 : -1000000000 ≤ (s : Int) - b := by omega
  have d2 : (s : Int) - b ≤ 1000000 := by omega
  unfold Pol.cells
  cases up
  · have C3 : Hid (∀ w1, Calls Try.prog 35 #[.int .i64 (s - b)] w1 fun e w' => e = .returned (.int .i64 q) ∧ w1 = w') := Lib.hid (fun w1 => by have := count_any (s - b) w1; simp at hq; rw [hq]; exact this)
    cases pct
    · simp only [if_false, Bool.false_eq_true] at hb
      rw [← hb] at C1
      clear hb hq
      go_enter Try.func58, Try.ntmps58
      go_wp2_with fail
      refine (C1.out _).mono ?_
      rintro e w1 ⟨rfl, rfl⟩
      go_wp2_with fail
      refine (C3.out _).mono ?_
      rintro e w1 ⟨rfl, rfl⟩
      go_wp2_with fail
      go_ret
      exact ⟨rfl, (Below.refl _ _).alloc (Nat.le_refl _) _⟩
    · simp only [if_true, Bool.false_eq_true, if_false] at hb
      have C2 := Lib.hid (C2.out (min value 1000))
      rw [← hb] at C2
      clear hb hq
      go_enter Try.func58, Try.ntmps58
      go_wp2_with fail
      refine (C1.out _).mono ?_
      rintro e w1 ⟨rfl, rfl⟩
      go_wp2_with fail
      refine (C2.out _).mono ?_
      rintro e w1 ⟨rfl, hb1⟩
      obtain ⟨_, hB⟩ := boxed hb1
      go_wp2_with fail
      refine (C3.out _).mono ?_
      rintro e w2 ⟨rfl, rfl⟩
      go_wp2_with fail
      go_ret
      exact ⟨rfl, hB⟩
  · have C3 : Hid (∀ w1, Calls Try.prog 35 #[.int .i64 (s + b)] w1 fun e w' => e = .returned (.int .i64 q) ∧ w1 = w') := Lib.hid (fun w1 => by have := count_any (s + b) w1; simp at hq; rw [hq]; exact this)
    cases pct
    · simp only [if_false, Bool.false_eq_true] at hb
      rw [← hb] at C1
      clear hb hq
      go_enter Try.func58, Try.ntmps58
      go_wp2_with fail
      refine (C1.out _).mono ?_
      rintro e w1 ⟨rfl, rfl⟩
      go_wp2_with fail
      refine (C3.out _).mono ?_
      rintro e w1 ⟨rfl, rfl⟩
      go_wp2_with fail
      go_ret
      exact ⟨rfl, (Below.refl _ _).alloc (Nat.le_refl _) _⟩
    · simp only [if_true] at hb
      have C2 := Lib.hid (C2.out value)
      rw [← hb] at C2
      clear hb hq
      go_enter Try.func58, Try.ntmps58
      go_wp2_with fail
      refine (C1.out _).mono ?_
      rintro e w1 ⟨rfl, rfl⟩
      go_wp2_with fail
      refine (C2.out _).mono ?_
      rintro e w1 ⟨rfl, hb1⟩
      obtain ⟨_, hB⟩ := boxed hb1
      go_wp2_with fail
      refine (C3.out _).mono ?_
      rintro e w2 ⟨rfl, rfl⟩
      go_wp2_with fail
      go_ret
      exact ⟨rfl, hB⟩
/-- The greatest, the least of a row that isn't empty. -/
def maxL (x : Int) (l : List Int) : Int := l.foldl max x
def minL (x : Int) (l : List Int) : Int := l.foldl min x
theorem max_any (x : Int) (l : List Int) (n : Nat) (v : Value) (w : World) (hn : n = l.length + 1) (hl : n ≤ 100) (h : Sl w 1 v n ((x :: l).map iv)) :
    Calls Try.prog 60 #[v] w fun e w' => e = .returned (.int .i64 (maxL x l)) ∧ w = w' := by
  obtain ⟨A, c, rfl, hc, _⟩ := id h
  obtain ⟨ad, rfl, hbl, hcell⟩ := Sl.cell1 (k := 0) (u := iv x) h (by simp)
  have hcell0 : w.cell? ad = some (.int .i64 x) := by simpa [Addr.add, iv] using hcell
  clear hcell
  have hp : (0 : Int) < (n : Int) := by omega
  have hp1 : (1 : Int) ≤ (n : Int) := by omega
  go_enter Try.func60, Try.ntmps60
  go_wp2_with fail
  go_loop [4, 3] (fun i m => ∃ k : Nat, k + 1 ≤ n ∧ i = .int .i64 (k + 1 : Nat) ∧ m = .int .i64 (maxL x (l.take k))) (fun i m => n - (intOf i).toNat)
  case atStart => exact ⟨0, by omega, rfl, rfl⟩
  case round =>
    obtain ⟨k, hk, rfl, rfl⟩ := hrel
    by_cases hlt : k + 1 < n
    · have hkl : k < l.length := by omega
      obtain ⟨ad', e', _, hcell⟩ := Sl.cell1 (k := k + 1) (u := iv l[k]) h (by simp [hkl])
      injection e' with e'
      subst e'
      unfold iv at hcell
      have hs : maxL x (l.take (k + 1)) = max (maxL x (l.take k)) l[k] := by
        unfold maxL
        rw [List.take_succ_eq_append_getElem hkl, List.foldl_append]
        rfl
      generalize l[k] = y at hcell hs
      generalize maxL x (l.take k) = m at hs ⊢
      have HS := Lib.hid hs
      clear hs h
      generalize hj : k + 1 = j at hlt hk hcell
      have hjj : ((k : Int) + 1) = j := by omega
      go_wp2_with fail
      go_round
      case rel => exact ⟨k + 1, by omega, by go_num, by rw [HS.out]⟩
      case measure => simp [intOf]; omega
    · have e : l.take k = l := List.take_of_length_le (by omega)
      rw [e]
      clear e h
      generalize hj : k + 1 = j at hlt hk ⊢
      go_wp2_with fail
      go_ret
      exact ⟨rfl, rfl⟩
theorem min_any (x : Int) (l : List Int) (n : Nat) (v : Value) (w : World) (hn : n = l.length + 1) (hl : n ≤ 100) (h : Sl w 1 v n ((x :: l).map iv)) :
    Calls Try.prog 61 #[v] w fun e w' => e = .returned (.int .i64 (minL x l)) ∧ w = w' := by
  obtain ⟨A, c, rfl, hc, _⟩ := id h
  obtain ⟨ad, rfl, hbl, hcell⟩ := Sl.cell1 (k := 0) (u := iv x) h (by simp)
  have hcell0 : w.cell? ad = some (.int .i64 x) := by simpa [Addr.add, iv] using hcell
  clear hcell
  have hp : (0 : Int) < (n : Int) := by omega
  have hp1 : (1 : Int) ≤ (n : Int) := by omega
  go_enter Try.func61, Try.ntmps61
  go_wp2_with fail
  go_loop [4, 3] (fun i m => ∃ k : Nat, k + 1 ≤ n ∧ i = .int .i64 (k + 1 : Nat) ∧ m = .int .i64 (minL x (l.take k))) (fun i m => n - (intOf i).toNat)
  case atStart => exact ⟨0, by omega, rfl, rfl⟩
  case round =>
    obtain ⟨k, hk, rfl, rfl⟩ := hrel
    by_cases hlt : k + 1 < n
    · have hkl : k < l.length := by omega
      obtain ⟨ad', e', _, hcell⟩ := Sl.cell1 (k := k + 1) (u := iv l[k]) h (by simp [hkl])
      injection e' with e'
      subst e'
      unfold iv at hcell
      have hs : minL x (l.take (k + 1)) = min (minL x (l.take k)) l[k] := by
        unfold minL
        rw [List.take_succ_eq_append_getElem hkl, List.foldl_append]
        rfl
      generalize l[k] = y at hcell hs
      generalize minL x (l.take k) = m at hs ⊢
      have HS := Lib.hid hs
      clear hs h
      generalize hj : k + 1 = j at hlt hk hcell
      have hjj : ((k : Int) + 1) = j := by omega
      go_wp2_with fail
      go_round
      case rel => exact ⟨k + 1, by omega, by go_num, by rw [HS.out]⟩
      case measure => simp [intOf]; omega
    · have e : l.take k = l := List.take_of_length_le (by omega)
      rw [e]
      clear e h
      generalize hj : k + 1 = j at hlt hk ⊢
      go_wp2_with fail
      go_ret
      exact ⟨rfl, rfl⟩
end Go.Proofs.Ytalmhnimmhgloaa
