/-
  The closure 'value' of the law TrendLines. Conditions: those named in it.
-/
import Derived.Test.YtalmhnimmhgloaaTr9
import Derived.Test.YtalmhnimmhgloaaLn1
namespace Go.Proofs.Ytalmhnimmhgloaa
open Go.RowKit Go.Proofs.Mem LineLaw
set_option linter.unusedVariables false
set_option linter.unusedSimpArgs false
set_option maxHeartbeats 1000000 in
theorem value_any (S0 P0 a t : Int) (b5 b7 b12 : Nat) (w : World) (hS0 : 0 ≤ S0 ∧ S0 ≤ 4294967295) (hP0 : 0 ≤ P0 ∧ P0 ≤ 65535) (h5 : w.cell? ⟨b5, 0, none⟩ = some (.int .u32 S0)) (h7 : w.cell? ⟨b7, 0, none⟩ = some (.int .u16 P0)) (h12 : w.cell? ⟨b12, 0, none⟩ = some (.int .i64 a)) (ht : a ≤ t ∧ t ≤ a + 65535) (ha : 0 ≤ a ∧ a ≤ 4294967295) :
    Calls Try.prog 29 #[.int .i64 t, .pointer (some ⟨b5, 0, none⟩), .pointer (some ⟨b7, 0, none⟩), .pointer (some ⟨b12, 0, none⟩)] w fun e w' => e = .returned (.int .i64 (vN (S0 % 1000000) (P0 % 1000) a t)) ∧ w = w' := by
  have e1 : S0.tmod 1000000 = S0 % 1000000 := Int.tmod_eq_emod_of_nonneg hS0.1
  have e2 : P0.tmod 1000 = P0 % 1000 := Int.tmod_eq_emod_of_nonneg hP0.1
  have p1 : (1000000 : Int) ≠ 0 := by omega
  obtain ⟨V, hV⟩ : ∃ V, V = S0 % 1000000 := ⟨_, rfl⟩
  obtain ⟨St, hSt⟩ : ∃ St, St = P0 % 1000 := ⟨_, rfl⟩
  rw [← hV] at e1 ⊢
  rw [← hSt] at e2 ⊢
  have v1 : 0 ≤ V ∧ V < 1000000 := by omega
  have v2 : 0 ≤ St ∧ St < 1000 := by omega
  have hb := vN_bd V St a t v1 v2 ht.1 ht.2
  clear hV hSt
  have R : Hid (wrap64 (V + wrap64 (St * (t - a))) = vN V St a t) := Lib.hid (by
    have b1 := prod_bd (A := 999) (B := 65535) v2.1 (by omega) (show 0 ≤ t - a by omega) (by omega)
    have w1 : wrap64 (St * (t - a)) = St * (t - a) := by unfold wrap64; omega
    rw [w1]
    unfold vN at hb ⊢
    unfold wrap64
    omega)
  go_enter Try.func29, Try.ntmps29
  go_wp2_with fail
  go_ret
  exact ⟨ret_int R.out, rfl⟩
end Go.Proofs.Ytalmhnimmhgloaa
