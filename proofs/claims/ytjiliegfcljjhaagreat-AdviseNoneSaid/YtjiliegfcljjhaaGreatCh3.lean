/-
  Contracts of package chart's Bucket, Put, as the statement ChartGrows uses them. Conditions: those named in each.
-/
import Derived.Test.YtjiliegfcljjhaaGreatCh2
import Derived.StillTailTactics
import Derived.BigQuiet
namespace Go.Proofs.YtjiliegfcljjhaaGreat
open Go.RowKit Go.Proofs.Mem
set_option linter.unusedVariables false
set_option linter.unusedSimpArgs false
def BucketIs (G F M : Nat) (m : Int) (w : World) (e : Ending) (w' : World) : Prop := (∃ i : Nat, e = .returned (.int .i64 i) ∧ i < M ∧ (FirstIs G F M m i ∨ (i + 1 = M ∧ NoneIs G F M m))) ∧ Below w.heap.size w w'
theorem bucket_any (w : World) (c F G M H : Nat) (ws : List Nat) (p : Int) (met : Bool) (m : Int) (h : Ch w c F G M H ws p met) (hM : M ≤ 64) (hM0 : 1 ≤ M) (m0 : 0 ≤ m) (m1 : m ≤ 9007199254740992) :
    Calls Tryz.prog 42 #[.pointer (some ⟨c + 1, 0, none⟩), .int .i64 m] w (BucketIs G F M m w) := by
  obtain ⟨ev, h1, h2, h3, h4⟩ := h
  have hS := Sl.of_own h4
  have c4 := (h1.alloc (.cells #[.int .i64 m] 29)).cell 4
  have hlt := h1.lt
  have C := Lib.hid (indexm_any (w.alloc (.cells #[.int .i64 m] 29)) ev G F M m w.heap.size hM (hS.alloc _) (by rw [World.cell?_alloc_at _ _ _ _ rfl]; rfl))
  obtain ⟨A, cp, rfl, hcp, _⟩ := id hS
  clear h4 h3
  go_enter Tryz.func42, Tryz.ntmps42
  go_wp2_with (go_at_call 39; refine (qright_t m _ m0 m1).mono ?_; rintro e w1 ⟨rfl, rfl⟩)
  refine C.out.mono ?_
  rintro e w' ⟨h, rfl⟩
  rcases h with ⟨i, rfl, hi⟩ | ⟨rfl, hi⟩
  · have hiM := hi.1
    have HI := Lib.hid hi
    clear hi
    go_wp2_with fail
    go_ret
    exact ⟨⟨i, rfl, HI.out.1, .inl HI.out⟩, below_al _ _⟩
  · have HI := Lib.hid hi
    clear hi
    go_wp2_with fail
    go_ret
    exact ⟨⟨M - 1, ret_int (by omega), by omega, .inr ⟨by omega, HI.out⟩⟩, below_al _ _⟩
/-- Put leaves the chart as a chart. -/
def PutIs (c F G M H : Nat) (w : World) (e : Ending) (w' : World) : Prop := ∃ (n : Int) (ws' : List Nat) (p' : Int) (met' : Bool), e = .returned (.int .i64 n) ∧ Ch w' c F G M H ws' p' met' ∧ (∀ x ∈ ws', x ≤ 144115188075855872) ∧ 0 ≤ p' ∧ p' ≤ 4611686018427387904 ∧ Below c w w'
theorem put_bad (w : World) (c F G M H : Nat) (ws : List Nat) (p : Int) (met : Bool) (t m k : Int) (h : Ch w c F G M H ws p met) (hw : ∀ x ∈ ws, x ≤ 144115188075855872) (hp : 0 ≤ p) (hp2 : p ≤ 4611686018427387904)
    (hbad : (m < 0 ∨ (0 ≤ m ∧ 9007199254740992 < m)) ∨ (0 ≤ m ∧ m ≤ 9007199254740992 ∧ (k < 1 ∨ (1 ≤ k ∧ 1000 < k))) ∨ (0 ≤ m ∧ m ≤ 9007199254740992 ∧ 1 ≤ k ∧ k ≤ 1000 ∧ t < 0) ∨ (0 ≤ m ∧ m ≤ 9007199254740992 ∧ 1 ≤ k ∧ k ≤ 1000 ∧ 0 ≤ t ∧ 4611686018427387904 < t)) :
    Calls Tryz.prog 23 #[.pointer (some ⟨c + 1, 0, none⟩), .int .i64 t, .int .i64 m, .int .i64 k] w (PutIs c F G M H w) := by
  have HW := Lib.hid hw
  clear hw
  have fin : PutIs c F G M H w (.returned (.int .i64 1)) w := ⟨1, ws, p, met, rfl, h, HW.out, hp, hp2, Below.refl _ _⟩
  have FIN := Lib.hid fin
  clear fin
  rcases hbad with hb | ⟨m0, m1, hb⟩ | ⟨m0, m1, k0, k1, hb⟩ | ⟨m0, m1, k0, k1, t0, hb⟩
  · have C := Lib.hid (fun w => qright_f m w hb)
    clear hb
    go_enter Tryz.func23, Tryz.ntmps23
    go_wp2_with (go_at_call 39; refine (C.out _).mono ?_; rintro e w1 ⟨rfl, rfl⟩)
    go_ret
    exact FIN.out
  · have C := Lib.hid (fun w => between_f k 1 1000 w hb)
    clear hb
    go_enter Tryz.func23, Tryz.ntmps23
    go_wp2_with (first
      | (go_at_call 39; refine (qright_t m _ m0 m1).mono ?_; rintro e w1 ⟨rfl, rfl⟩)
      | (go_at_call 40; refine (C.out _).mono ?_; rintro e w1 ⟨rfl, rfl⟩))
    go_ret
    exact FIN.out
  all_goals
    go_enter Tryz.func23, Tryz.ntmps23
    go_wp2_with (first
      | (go_at_call 39; refine (qright_t m _ m0 m1).mono ?_; rintro e w1 ⟨rfl, rfl⟩)
      | (go_at_call 40; refine (between_t k 1 1000 _ k0 k1).mono ?_; rintro e w1 ⟨rfl, rfl⟩))
    go_ret
    exact FIN.out
end Go.Proofs.YtjiliegfcljjhaaGreat
