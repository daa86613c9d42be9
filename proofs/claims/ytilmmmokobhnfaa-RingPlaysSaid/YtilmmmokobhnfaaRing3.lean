/-
  The walk of trimtablaw10.lives: the chapter's example.
-/
import Derived.Test.YtilmmmokobhnfaaRing2S
import Derived.Test.YtilmmmokobhnfaaRing2I
namespace Go.Proofs.Ytilmmmokobhnfaa
open Go.RowKit Go.Proofs.Mem
set_option linter.unusedVariables false
set_option linter.unusedSimpArgs false
theorem lst_n {α : Type} {zs : List (Int × α)} {f n : Nat} {L : List (Int × α)} (h : lst zs f n = L) (hz : 0 < zs.length) : n = L.length := by rw [← h, lst_length zs f n hz]
def ex10 : Nat → List (Int × ByteArray)
  | 0 => []
  | 1 => [(1, ⟨#[120]⟩)]
  | 2 => [(1, ⟨#[120]⟩), (2, ⟨#[120]⟩)]
  | _ => [(2, ⟨#[120]⟩), (3, ⟨#[120]⟩)]
/-- A ring of two places that has L. -/
def IsS (w : World) (p q : Nat) (L : List (Int × ByteArray)) : Prop := ∃ zs f n, RingS w p q zs f n ∧ zs.length = 2 ∧ lst zs f n = L
theorem putS_ex (k : Nat) (hk : k < 3) (p q : Nat) (w : World) (h : IsS w p q (ex10 k)) :
    Calls Try.prog 69 #[.pointer (some ⟨p, 0, none⟩), .int .i64 ((k : Int) + 1), .string ⟨#[120]⟩] w fun e w' => e = .returned (.int .i64 0) ∧ IsS w' p q (ex10 (k + 1)) ∧ RTouch p q w w' := by
  obtain ⟨zs, f, n, hR, hl, hL⟩ := h
  have hn := lst_n hL (by omega)
  refine (putS_ok ((k : Int) + 1) (by omega) ⟨#[120]⟩ w hR (by
    intro y hy
    rw [hL] at hy
    have : k = 0 ∨ k = 1 ∨ k = 2 := by omega
    rcases this with rfl | rfl | rfl
    · simp [ex10] at hy
    · simp [ex10] at hy; subst hy; simp
    · simp [ex10] at hy; subst hy; simp)).mono ?_
  rintro e w' ⟨rfl, ⟨zs', f', n', hR', hl', hL'⟩, hT⟩
  refine ⟨rfl, ⟨zs', f', n', hR', hl'.trans hl, ?_⟩, hT⟩
  rw [hL', hL, hl, hn]
  have : k = 0 ∨ k = 1 ∨ k = 2 := by omega
  rcases this with rfl | rfl | rfl
  · simp [ex10]
  · simp [ex10]
  · simp [ex10]
set_option maxHeartbeats 400000 in
set_option maxRecDepth 100000 in
theorem lives10_any (w : World) : Calls Try.prog 36 #[] w fun e w' => e = .returned (.bool true) ∧ Below w.heap.size w w' := by
  have C0 := Lib.hid (fun w1 => newS_ok 2 (by omega) (by omega) w1)
  go_enter Try.func36, Try.ntmps36
  go_wp2_with fail
  refine (C0.out _).mono ?_
  rintro e w1 ⟨p, q, rfl, hR, hp, hq, hb1⟩
  have h0 : IsS w1 p q (ex10 0) := ⟨_, _, _, hR, by simp, by rw [lst_eq _ _ _ (by simp)]; rfl⟩
  clear hR C0
  go_wp2_with fail
  go_loopw [10, 3] (fun i r wr => ∃ k : Nat, k ≤ 3 ∧ i = .int .i64 k ∧ IsS wr p q (ex10 k) ∧ Below w.heap.size w wr) (fun i r wr => 3 - (intOf i).toNat)
  case atStart => exact ⟨0, by omega, rfl, h0, hb1⟩
  case round =>
    obtain ⟨k, hk, rfl, hI, hB⟩ := hrel
    by_cases hlt : k < 3
    · have CP := Lib.hid (putS_ex k hlt p q wr hI)
      clear h0 hb1 hI
      go_wp2_with fail
      refine (CP.out).mono ?_
      rintro e w2 ⟨rfl, hI2, hT⟩
      go_wp2_with fail
      exact ⟨⟨k + 1, by omega, by go_num, hI2, hT.below _ _ hB hp hq hB.size⟩, by simp [intOf]; omega⟩
    · have hk3 : k = 3 := by omega
      subst hk3
      obtain ⟨zs, f, n, hR, hl, hL⟩ := hI
      have hn : n = 2 := lst_n hL (by omega)
      subst hn
      have CL := Lib.hid (lastS_is wr hR)
      rw [hL] at CL
      have CN := Lib.hid (fun w2 (hb : Below wr.heap.size wr w2) => lenS_any w2 (hR.below hb))
      clear h0 hb1 hR hL
      go_wp2_with fail
      refine (CL.out).mono ?_
      rintro e w2 ⟨a, v, ok, rfl, hok, h9, hb2⟩
      clear h9
      cases ok
      · exact absurd hok (by simp [ex10])
      · have e1 : a = 3 := by simpa [ex10] using (congrArg (Option.map (·.1)) hok).symm
        subst e1
        clear hok CL
        have hk2 := Bk.new w2 139 #[.int .i64 3, .string v]
        have hb3 := hb2.trans ((below_al w2 (.cells #[.int .i64 3, .string v] 139)).mono hb2.size)
        go_wp2_with fail
        refine (CN.out _ hb3).mono ?_
        rintro e w4 ⟨rfl, rfl⟩
        go_wp2_with fail
        go_ret
        exact ⟨by simp, below_tr hB hb3⟩
end Go.Proofs.Ytilmmmokobhnfaa
