/-
  TrendReaches: the law's own test of samples: where it answers that they may be, they are samples of which a line is made. Conditions: those named in each.
-/
import Derived.Test.YtalmhnimmhgloaaTr8
import Derived.Deep.QuietTactic
import Derived.BigQuiet
import Derived.Outline
namespace Go.Proofs.Ytalmhnimmhgloaa
open Go.RowKit Go.Proofs.Mem LineLaw
set_option linter.unusedVariables false
set_option linter.unusedSimpArgs false
/-- The first k samples may be. -/
structure OkK (l : List Smp) (k : Nat) : Prop where
  at0 : ∀ (i : Nat) (h : i < l.length), i < k → 0 ≤ l[i].at'
  at1 : ∀ (i : Nat) (h : i < l.length), i < k → l[i].at' ≤ 4611686018427387904
  v0 : ∀ (i : Nat) (h : i < l.length), i < k → 0 ≤ l[i].v
  v1 : ∀ (i : Nat) (h : i < l.length), i < k → l[i].v ≤ 9007199254740992
  asc : ∀ (i : Nat) (h : i + 1 < l.length), i + 1 < k → (l[i]'(by omega)).at' < l[i + 1].at'
/-- None of the first k is far. -/
structure NearK (l : List Smp) (k : Nat) : Prop where
  near : ∀ (i : Nat) (h : i < l.length), i < k → l[i].at' - first l ≤ 65536
  v : ∀ (i : Nat) (h : i < l.length), i < k → l[i].v ≤ 4294967296
theorem okK0 (l : List Smp) : OkK l 0 := by constructor <;> intros <;> omega
theorem nearK0 (l : List Smp) : NearK l 0 := by constructor <;> intros <;> omega
theorem OkK.succ {l : List Smp} {k : Nat} (h : OkK l k) (hk : k < l.length) (a0 : 0 ≤ l[k].at') (a1 : l[k].at' ≤ 4611686018427387904) (v0 : 0 ≤ l[k].v) (v1 : l[k].v ≤ 9007199254740992) (hasc : ∀ (j : Nat) (hj : j + 1 = k), (l[j]'(by omega)).at' < l[k].at') : OkK l (k + 1) := by
  constructor
  · intro i hi hik
    rcases Nat.lt_or_ge i k with h1 | h1
    · exact h.at0 i hi h1
    · obtain rfl : i = k := by omega
      exact a0
  · intro i hi hik
    rcases Nat.lt_or_ge i k with h1 | h1
    · exact h.at1 i hi h1
    · obtain rfl : i = k := by omega
      exact a1
  · intro i hi hik
    rcases Nat.lt_or_ge i k with h1 | h1
    · exact h.v0 i hi h1
    · obtain rfl : i = k := by omega
      exact v0
  · intro i hi hik
    rcases Nat.lt_or_ge i k with h1 | h1
    · exact h.v1 i hi h1
    · obtain rfl : i = k := by omega
      exact v1
  · intro i hi hik
    rcases Nat.lt_or_ge (i + 1) k with h1 | h1
    · exact h.asc i hi h1
    · obtain rfl : k = i + 1 := by omega
      exact hasc i rfl
theorem NearK.succ {l : List Smp} {k : Nat} (h : NearK l k) (hk : k < l.length) (a : l[k].at' - first l ≤ 65536) (v : l[k].v ≤ 4294967296) : NearK l (k + 1) := by
  constructor
  · intro i hi hik
    rcases Nat.lt_or_ge i k with h1 | h1
    · exact h.near i hi h1
    · obtain rfl : i = k := by omega
      exact a
  · intro i hi hik
    rcases Nat.lt_or_ge i k with h1 | h1
    · exact h.v i hi h1
    · obtain rfl : i = k := by omega
      exact v
theorem okL_of {l : List Smp} (h2 : 2 ≤ l.length) (h3 : l.length ≤ 32) (h : OkK l l.length) (n : NearK l l.length) : OkL l := by
  constructor
  · exact h2
  · exact h3
  · intro s hs; obtain ⟨i, hi, rfl⟩ := List.mem_iff_getElem.1 hs; exact h.at0 i hi hi
  · intro s hs; obtain ⟨i, hi, rfl⟩ := List.mem_iff_getElem.1 hs; exact h.at1 i hi hi
  · intro s hs; obtain ⟨i, hi, rfl⟩ := List.mem_iff_getElem.1 hs; exact h.v0 i hi hi
  · intro s hs; obtain ⟨i, hi, rfl⟩ := List.mem_iff_getElem.1 hs; exact n.v i hi hi
  · intro i hi; exact h.asc i hi hi
  · intro s hs; obtain ⟨i, hi, rfl⟩ := List.mem_iff_getElem.1 hs; exact n.near i hi hi
/-- What the test answers. -/
def RightIs (l : List Smp) (w : World) (e : Ending) (w' : World) : Prop := (∃ c : Int, e = .returned (.int .i64 c) ∧ ((c == 0) = false ∨ (c = 0 ∧ OkL l))) ∧ Below w.heap.size w w'
theorem right_bad {l : List Smp} {w w' : World} (c : Int) (h : (c == 0) = false) (hb : Below w.heap.size w w') : RightIs l w (.returned (.int .i64 c)) w' := ⟨⟨c, rfl, .inl h⟩, hb⟩
theorem right_good {l : List Smp} {w w' : World} (h : OkL l) (hb : Below w.heap.size w w') : RightIs l w (.returned (.int .i64 0)) w' := ⟨⟨0, rfl, .inr ⟨rfl, h⟩⟩, hb⟩
set_option maxHeartbeats 20000000 in
set_option maxRecDepth 100000 in
theorem right42_any (l : List Smp) (v : Value) (w : World) (hml : l.length ≤ maxLen) (hv : Sl w 2 v l.length (l.flatMap Smp.cells)) :
    Calls Try.prog 25 #[v] w (RightIs l w) := by
  obtain ⟨A, cp, rfl, hcp, _⟩ := id hv
  by_cases h2 : l.length < 2
  · have i2 : (l.length : Int) < 2 := by omega
    go_enter Try.func25, Try.ntmps25
    go_wp2_with fail
    go_ret
    exact right_bad 14 rfl (Below.refl _ _)
  by_cases h3 : 32 < l.length
  · have i2 : ¬ (l.length : Int) < 2 := by omega
    have i3 : (32 : Int) < l.length := by omega
    go_enter Try.func25, Try.ntmps25
    go_wp2_with fail
    go_ret
    exact right_bad 18 rfl (Below.refl _ _)
  have i2 : ¬ (l.length : Int) < 2 := by omega
  have i3 : (l.length : Int) ≤ 32 := by omega
  have i4 : (0 : Int) < l.length := by omega
  go_enter Try.func25, Try.ntmps25
  go_wp2_with fail
  go_loopw [3, 14] (fun fv i wr => ∃ (k : Nat) (fb : Bool), k ≤ l.length ∧ i = .int .i64 k ∧ fv = .bool fb ∧ OkK l k ∧ (fb = false → NearK l k) ∧ Below w.heap.size w wr) (fun _ i wr => l.length - (intOf i).toNat)
  case atStart => exact ⟨0, false, Nat.zero_le _, rfl, rfl, okK0 l, fun _ => nearK0 l, Below.refl _ _⟩
  case round =>
    obtain ⟨k, fb, hk, rfl, rfl, hok, hnear, hB⟩ := hrel
    by_cases hlt : k < l.length
    · obtain ⟨b, o, rfl, _, _, hck⟩ := Sl.row' (f := Smp.cells) (fun _ => rfl) (by omega) (hv.below hB) k hlt
      obtain ⟨b2, o2, eA, _, _, hc0⟩ := Sl.row' (f := Smp.cells) (fun _ => rfl) (by omega) (hv.below hB) 0 (by omega)
      injection eA with eA
      injection eA with e1 e2 e3
      subst e1; subst e2
      have c0 : wr.cell? ⟨b, o + k * 2, none⟩ = _ := hck 0 _ rfl
      have c1 := hck 1 _ rfl
      have d0 : wr.cell? ⟨b, o + 0 * 2, none⟩ = _ := hc0 0 _ rfl
      rw [Nat.zero_mul, Nat.add_zero, ← first_eq l (by omega)] at d0
      have hB2 := hB.alloc hB.size (.cells #[.int .i64 l[k].at', .int .i64 l[k].v] 71)
      have kk : (k : Int) < l.length := by omega
      have HS := Lib.hid (hok.succ hlt)
      have HN := Lib.hid (fun (h : fb = false) => (hnear h).succ hlt)
      clear hck hc0
      by_cases hz : k = 0
      · have hk0 : ¬ (0 : Int) < k := by omega
        have bz : decide ((0 : Int) < (k : Int)) = false := decide_eq_false hk0
        have bz2 : decide (0 < k) = false := decide_eq_false (by omega)
        have HF := Lib.hid (first_eq l (by omega))
        have hf : first l = l[k].at' := by rw [HF.out]; subst hz; rfl
        clear HF hok hnear
        obtain ⟨f, hF⟩ : ∃ f, f = first l := ⟨_, rfl⟩
        rw [← hF] at d0 hf
        rw [← hF] at HN
        clear hF
        have HK := Lib.hid hz
        clear hz
        generalize l[k] = s at *
        by_cases g1 : s.at' < 0
        · clear HS HN
          have b1 : decide (s.at' < 0) = true := decide_eq_true g1
          go_wp2_with fail
          go_quiet (fail)
          go_wp2_with fail
          go_ret
          exact right_bad 1 rfl (below_drewN hB2 _)
        have b1 : decide (s.at' < 0) = false := decide_eq_false g1
        have g1 : 0 ≤ s.at' := by omega
        by_cases g2 : 4611686018427387904 < s.at'
        · clear HS HN
          have b2 : decide (4611686018427387904 < s.at') = true := decide_eq_true g2
          go_wp2_with fail
          go_quiet (fail)
          go_wp2_with fail
          go_ret
          exact right_bad 1 rfl (below_drewN hB2 _)
        have b2 : decide (4611686018427387904 < s.at') = false := decide_eq_false g2
        have g2 : s.at' ≤ 4611686018427387904 := by omega
        by_cases g3 : s.v < 0
        · clear HS HN
          have b3 : decide (s.v < 0) = true := decide_eq_true g3
          go_wp2_with fail
          go_quiet (fail)
          go_wp2_with fail
          go_ret
          exact right_bad 1 rfl (below_drewN hB2 _)
        have b3 : decide (s.v < 0) = false := decide_eq_false g3
        have g3 : 0 ≤ s.v := by omega
        by_cases g4 : 9007199254740992 < s.v
        · clear HS HN
          have b4 : decide (9007199254740992 < s.v) = true := decide_eq_true g4
          go_wp2_with fail
          go_quiet (fail)
          go_wp2_with fail
          go_ret
          exact right_bad 1 rfl (below_drewN hB2 _)
        have b4 : decide (9007199254740992 < s.v) = false := decide_eq_false g4
        have g4 : s.v ≤ 9007199254740992 := by omega
        have f0 : 0 ≤ f := by omega
        have f1 : f ≤ 4611686018427387904 := by omega
        have HS2 := Lib.hid (HS.out g1 g2 g3 g4 (fun j hj => by have := HK.out; omega))
        clear HS
        cases fb with
        | true =>
          clear HN
          go_wp2_with fail
          go_quiet (fail)
          go_wp2_with fail
          go_quiet (fail)
          go_wp2_with fail
          exact ⟨⟨k + 1, true, hlt, by go_num, rfl, HS2.out, (fun h => by cases h), below_drewN hB2 _⟩, by simp [intOf]; omega⟩
        | false =>
          have n1 : s.at' - f ≤ 65536 := by omega
          have nb1 : decide (65536 < s.at' - f) = false := decide_eq_false (by omega)
          by_cases n2 : 4294967296 < s.v
          · clear HN
            have nb2 : decide (4294967296 < s.v) = true := decide_eq_true n2
            go_wp2_with fail
            go_quiet (fail)
            go_wp2_with fail
            go_quiet (fail)
            go_wp2_with fail
            exact ⟨⟨k + 1, true, hlt, by go_num, rfl, HS2.out, (fun h => by cases h), below_drewN hB2 _⟩, by simp [intOf]; omega⟩
          have n2 : s.v ≤ 4294967296 := by omega
          have nb2 : decide (4294967296 < s.v) = false := decide_eq_false (by omega)
          have HN2 := Lib.hid (HN.out rfl n1 n2)
          clear HN
          go_wp2_with fail
          go_quiet (fail)
          go_wp2_with fail
          go_quiet (fail)
          go_wp2_with fail
          exact ⟨⟨k + 1, false, hlt, by go_num, rfl, HS2.out, fun _ => HN2.out, below_drewN hB2 _⟩, by simp [intOf]; omega⟩
      obtain ⟨j, rfl⟩ : ∃ j, k = j + 1 := ⟨k - 1, by omega⟩
      obtain ⟨b3, o3, eA, _, _, hcj⟩ := Sl.row' (f := Smp.cells) (fun _ => rfl) (by omega) (hv.below hB) j (by omega)
      injection eA with eA
      injection eA with e1 e2 e3
      subst e1; subst e2
      have e0 : wr.cell? ⟨b, o + j * 2, none⟩ = _ := hcj 0 _ rfl
      have hfz := first_eq l (by omega)
      have f0 := hok.at0 0 (by omega) (by omega)
      have f1 := hok.at1 0 (by omega) (by omega)
      rw [← hfz] at f0 f1
      have bz : decide ((0 : Int) < (j : Int) + 1) = true := decide_eq_true (by omega)
      have bz2 : decide ((0 : Int) < ((j + 1 : Nat) : Int)) = true := decide_eq_true (by omega)
      clear hcj hok hnear hfz
      have q1 : IntKind.i64.wrap (((j + 1 : Nat) : Int) - 1) = (j : Int) := by rw [IntWalk.i64_in _ (by omega)]; omega
      have q2 : IntKind.i64.wrap ((j : Int) + 1 - 1) = (j : Int) := by rw [IntWalk.i64_in _ (by omega)]; omega
      have q4 : IntKind.i64.wrap (j : Int) = (j : Int) := IntWalk.i64_in _ (by omega)
      have jl : (j : Int) < l.length := by omega
      have jz : (0 : Int) < (j : Int) + 1 := by omega
      have HS : Hid (0 ≤ l[j + 1].at' → l[j + 1].at' ≤ 4611686018427387904 → 0 ≤ l[j + 1].v → l[j + 1].v ≤ 9007199254740992 → (l[j]'(by omega)).at' < l[j + 1].at' → OkK l (j + 1 + 1)) := Lib.hid (fun a b c d e => HS.out a b c d (by intro i hi; obtain rfl : i = j := Nat.succ.inj hi; exact e))
      obtain ⟨f, hF⟩ : ∃ f, f = first l := ⟨_, rfl⟩
      rw [← hF] at d0 f0 f1
      rw [← hF] at HN
      clear hF
      generalize l[j + 1] = s at *
      generalize l[j] = r at *
      by_cases g1 : s.at' < 0
      · clear HS HN
        have b1 : decide (s.at' < 0) = true := decide_eq_true g1
        go_wp2_with fail
        go_quiet (fail)
        go_wp2_with fail
        go_ret
        exact right_bad 1 rfl (below_drewN hB2 _)
      have b1 : decide (s.at' < 0) = false := decide_eq_false g1
      have g1 : 0 ≤ s.at' := by omega
      by_cases g2 : 4611686018427387904 < s.at'
      · clear HS HN
        have b2 : decide (4611686018427387904 < s.at') = true := decide_eq_true g2
        go_wp2_with fail
        go_quiet (fail)
        go_wp2_with fail
        go_ret
        exact right_bad 1 rfl (below_drewN hB2 _)
      have b2 : decide (4611686018427387904 < s.at') = false := decide_eq_false g2
      have g2 : s.at' ≤ 4611686018427387904 := by omega
      by_cases g3 : s.v < 0
      · clear HS HN
        have b3 : decide (s.v < 0) = true := decide_eq_true g3
        go_wp2_with fail
        go_quiet (fail)
        go_wp2_with fail
        go_ret
        exact right_bad 1 rfl (below_drewN hB2 _)
      have b3 : decide (s.v < 0) = false := decide_eq_false g3
      have g3 : 0 ≤ s.v := by omega
      by_cases g4 : 9007199254740992 < s.v
      · clear HS HN
        have b4 : decide (9007199254740992 < s.v) = true := decide_eq_true g4
        go_wp2_with fail
        go_quiet (fail)
        go_wp2_with fail
        go_ret
        exact right_bad 1 rfl (below_drewN hB2 _)
      have b4 : decide (9007199254740992 < s.v) = false := decide_eq_false g4
      have g4 : s.v ≤ 9007199254740992 := by omega
      by_cases g5 : s.at' ≤ r.at'
      · clear HS HN
        have b5 : decide (s.at' ≤ r.at') = true := decide_eq_true g5
        go_wp2_with fail
        go_quiet (fail)
        go_wp2_with fail
        go_ret
        exact right_bad 1 rfl (below_drewN hB2 _)
      have b5 : decide (s.at' ≤ r.at') = false := decide_eq_false g5
      have g5 : r.at' < s.at' := by omega
      have HS2 := Lib.hid (HS.out g1 g2 g3 g4 g5)
      clear HS
      cases fb with
      | true =>
        clear HN
        go_wp2_with fail
        go_quiet (fail)
        go_wp2_with fail
        go_quiet (fail)
        go_wp2_with fail
        exact ⟨⟨(j + 1) + 1, true, hlt, by go_num, rfl, HS2.out, (fun h => by cases h), below_drewN hB2 _⟩, by simp [intOf]; omega⟩
      | false =>
        by_cases n1 : 65536 < s.at' - f
        · clear HN
          have nb1 : decide (65536 < s.at' - f) = true := decide_eq_true n1
          go_wp2_with fail
          go_quiet (fail)
          go_wp2_with fail
          go_quiet (fail)
          go_wp2_with fail
          exact ⟨⟨(j + 1) + 1, true, hlt, by go_num, rfl, HS2.out, (fun h => by cases h), below_drewN hB2 _⟩, by simp [intOf]; omega⟩
        have n1 : s.at' - f ≤ 65536 := by omega
        have nb1 : decide (65536 < s.at' - f) = false := decide_eq_false (by omega)
        by_cases n2 : 4294967296 < s.v
        · clear HN
          have nb2 : decide (4294967296 < s.v) = true := decide_eq_true n2
          go_wp2_with fail
          go_quiet (fail)
          go_wp2_with fail
          go_quiet (fail)
          go_wp2_with fail
          exact ⟨⟨(j + 1) + 1, true, hlt, by go_num, rfl, HS2.out, (fun h => by cases h), below_drewN hB2 _⟩, by simp [intOf]; omega⟩
        have n2 : s.v ≤ 4294967296 := by omega
        have nb2 : decide (4294967296 < s.v) = false := decide_eq_false (by omega)
        have HN2 := Lib.hid (HN.out rfl n1 n2)
        clear HN
        go_wp2_with fail
        go_quiet (fail)
        go_wp2_with fail
        go_quiet (fail)
        go_wp2_with fail
        exact ⟨⟨(j + 1) + 1, false, hlt, by go_num, rfl, HS2.out, fun _ => HN2.out, below_drewN hB2 _⟩, by simp [intOf]; omega⟩
    · obtain rfl : k = l.length := by omega
      cases fb with
      | true =>
        go_wp2_with fail
        go_ret
        exact right_bad 3 rfl hB
      | false =>
        have R := Lib.hid (okL_of (by omega) (by omega) hok (hnear rfl))
        clear hok hnear
        go_wp2_with fail
        go_ret
        exact right_good R.out hB
end Go.Proofs.Ytalmhnimmhgloaa
