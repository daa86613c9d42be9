/-
  The contract of package chart's Percentile, as the statement ChartGrows uses it, and the chapter's example. Conditions: those named in each.
-/
import Derived.Test.YtjiliegfcljjhaaGreatCh5
namespace Go.Proofs.YtjiliegfcljjhaaGreat
open Go.RowKit Go.Proofs.Mem
set_option linter.unusedVariables false
set_option linter.unusedSimpArgs false
theorem perc_none (w : World) (c F G M H : Nat) (ws : List Nat) (p : Int) (met : Bool) (h : Ch w c F G M H ws p met) (hM : M ≤ 64) (hw : ∀ x ∈ ws, x ≤ 144115188075855872) (t : Int) (h0 : ws.sum = 0) :
    Calls Tryz.prog 29 #[.pointer (some ⟨c + 1, 0, none⟩), .int .i64 t] w fun e w' => e = .returned (.tuple #[.int .i64 0, .bool false]) ∧ w = w' := by
  have C := Lib.hid (total_any w c F G M H ws p met h hM hw)
  rw [h0] at C
  clear h0 hw
  go_enter Tryz.func29, Tryz.ntmps29
  go_wp2_with fail
  refine C.out.mono ?_
  rintro e w1 ⟨rfl, rfl⟩
  go_wp2_with fail
  go_ret2
  exact ⟨rfl, rfl⟩
def PercIs (G F : Nat) (ws : List Nat) (t : Nat) (w : World) (e : Ending) (w' : World) : Prop := (∃ i, e = .returned (.tuple #[endV G F i, .bool true]) ∧ ChartLaw.Hits ws (ChartLaw.want ws.sum t) i) ∧ Below w.heap.size w w'
theorem want_eq (s t : Nat) : max (mulDivN s t 1000 true) 1 = ChartLaw.want s t := by
  unfold mulDivN ChartLaw.want
  have : s * t / 1000 + (if true = true ∧ 0 < s * t % 1000 then 1 else 0) = (s * t + 999) / 1000 := by
    split <;> rename_i h
    · have := h.2; omega
    · have : ¬ 0 < s * t % 1000 := fun h0 => h ⟨rfl, h0⟩
      omega
  rw [this]
set_option maxHeartbeats 1000000 in
set_option maxRecDepth 100000 in
theorem perc_some (w : World) (c F G M H : Nat) (ws : List Nat) (p : Int) (met : Bool) (h : Ch w c F G M H ws p met) (hM : M ≤ 64) (hw : ∀ x ∈ ws, x ≤ 144115188075855872) (t : Nat) (ht : t ≤ 1000) (h0 : 0 < ws.sum) :
    Calls Tryz.prog 29 #[.pointer (some ⟨c + 1, 0, none⟩), .int .i64 t] w (PercIs G F ws t w) := by
  have C := Lib.hid (total_any w c F G M H ws p met h hM hw)
  have hsum : ∀ k, (ws.take k).sum ≤ ws.sum := ChartLaw.sum_take_le ws
  have hs1 : ws.sum ≤ 9223372036854775808 := by
    have b := sum_bd _ ws hw
    have : ws.length * 144115188075855872 ≤ 64 * 144115188075855872 := Nat.mul_le_mul_right _ (by obtain ⟨ev, _, _, h3, _⟩ := h; omega)
    omega
  have hwant := want_eq ws.sum t
  have hwl := ChartLaw.want_le ws.sum t h0 ht
  have HS := Lib.hid hsum
  obtain ⟨S, hS⟩ : ∃ S, S = ws.sum := ⟨_, rfl⟩
  rw [← hS] at C h0 hs1 hwant hwl
  have HSS := Lib.hid hS
  clear hsum hw hS
  have CM : Hid (∀ w1, Calls Tryz.prog 43 #[.int .u64 S, .int .u64 t, .int .u64 1000, .bool true] w1 (MulDivIs S t 1000 true w1)) := Lib.hid fun w1 => muldiv_some S t 1000 true w1 (by omega) (by omega) (by omega) (by omega)
  have hm0 : mulDivN S t 1000 true ≤ S := by
    have := Nat.le_max_left (mulDivN S t 1000 true) 1
    omega
  obtain ⟨n, hnn⟩ : ∃ n, n = mulDivN S t 1000 true := ⟨_, rfl⟩
  rw [← hnn] at hm0 hwant
  have HNN := Lib.hid hnn
  have HW := Lib.hid hwant
  have HZ := Lib.hid hwl
  clear hnn hwant hwl
  have hS0 : ((S : Int) == 0) = false := by simp; omega
  have hs1' : (S : Int) ≤ 9223372036854775808 := by omega
  go_enter Tryz.func29, Tryz.ntmps29
  go_wp2_with fail
  refine C.out.mono ?_
  rintro e w1 ⟨rfl, rfl⟩
  go_wp2_with fail
  refine (between_t t 0 1000 _ (by omega) (by omega)).mono ?_
  rintro e w1 ⟨rfl, rfl⟩
  have t2 : (t : Int) ≤ 1000 := by omega
  go_wp2_with fail
  refine (CM.out _).mono ?_
  rintro e w8 ⟨hcase, hb8⟩
  obtain ⟨n', hn', _, rfl⟩ : ∃ n' : Nat, n' = n ∧ True ∧ e = .returned (.tuple #[.int .u64 n', .int .i64 0]) := by
    rw [← HNN.out] at hcase
    rcases hcase with ⟨h1, _⟩ | ⟨_, h1, _⟩ | ⟨_, n', h1, _, h2⟩
    · omega
    · omega
    · exact ⟨n', h1, trivial, h2⟩
  clear hcase
  subst hn'
  have h8 := h.below hb8
  obtain ⟨ev, k1, k2, k3, k4⟩ := id h8
  have c5 := k1.cell 5
  have c4 := k1.cell 4
  have hSl := Sl.of_own k4
  obtain ⟨A, cp, rfl, hcp, _⟩ := id hSl
  have K3 := Lib.hid k3
  clear k4 k3 k1
  go_wp2_with fail
  obtain ⟨z, hz⟩ : ∃ z : Nat, z = max n' 1 := ⟨_, rfl⟩
  have ez : max (n' : Int) 1 = (z : Int) := by omega
  rw [ez]
  rw [← hz] at HW
  rw [← HW.out] at HZ
  have z1 : z ≤ 9223372036854775808 := by omega
  have z0 : 0 < z := by omega
  clear ez hz hm0 CM HNN
  go_loop [9, 10, 11, 35] (fun s _ _ i => ∃ k : Nat, k ≤ M ∧ i = .int .i64 k ∧ s = .int .u64 ((ws.take k).sum : Nat) ∧ Hid ((ws.take k).sum < z)) (fun _ _ _ i => M - (intOf i).toNat)
  case atStart => exact ⟨0, Nat.zero_le _, rfl, rfl, Lib.hid (by simpa using z0)⟩
  case round =>
    obtain ⟨k, hk, rfl, rfl, hlz⟩ := hrel
    have hl := K3.out
    by_cases hlt : k < M
    · have hk' : k < ws.length := by omega
      have d := k2.cell k
      rw [List.getElem?_toArray, List.getElem?_map, List.getElem?_eq_getElem hk'] at d
      replace d : w8.cell? ⟨c, k, none⟩ = some (.int .u64 (ws[k] : Nat)) := d
      obtain ⟨ad, rfl, _, hcell⟩ := Sl.cell1 (k := k) hSl (endsL_get G F M k hlt)
      unfold endV at hcell
      have s1 := HS.out k
      have s2 := HS.out (k + 1)
      rw [← HSS.out] at s1 s2
      have e := sum_take_succ ws k hk'
      have HH : Hid (z ≤ (ws.take (k + 1)).sum → ChartLaw.Hits ws z k) := Lib.hid fun hz => ⟨hk', hz, hlz.out⟩
      have E := Lib.hid e
      rw [e] at s2
      clear e hl
      generalize ws[k] = x at d s2 E
      obtain ⟨S1, hS1⟩ : ∃ S1, S1 = (ws.take k).sum := ⟨_, rfl⟩
      rw [← hS1] at s1 s2 E hlz ⊢
      clear hS1
      rcases Nat.lt_or_ge (S1 + x) z with hc | hc
      · have hN : Hid ((ws.take (k + 1)).sum < z) := Lib.hid (by rw [E.out]; exact hc)
        go_wp2_with fail
        go_round
        case rel => exact ⟨k + 1, by omega, by go_num, by rw [E.out]; go_num, hN⟩
        case measure => simp [intOf]; omega
      · have hY := Lib.hid (HH.out (by rw [E.out]; exact hc))
        go_wp2_with fail
        go_ret2
        exact ⟨⟨k, rfl, by rw [← HSS.out, ← HW.out]; exact hY.out⟩, hb8⟩
    · exfalso
      have e : ws.take k = ws := List.take_of_length_le (by omega)
      have := hlz.out
      rw [e, ← HSS.out] at this
      have := HZ.out
      omega
end Go.Proofs.YtjiliegfcljjhaaGreat
