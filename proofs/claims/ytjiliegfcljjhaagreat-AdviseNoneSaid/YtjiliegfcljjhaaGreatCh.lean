/-
  Contracts of package chart (New, Put, Total, Percentile, End, Bucket), as the statement ChartGrows uses them: what a chart's blocks hold ('Ch'). Conditions: those named in each.
-/
import Derived.Test.YtjiliegfcljjhaaGreatWide
import Derived.Test.YtjiliegfcljjhaaGreatRow
import Derived.Test.YtjiliegfcljjhaaGreatChartLaw
import Derived.WalkSpells
namespace Go.Proofs.YtjiliegfcljjhaaGreat
open Go.RowKit Go.Proofs.Mem
set_option linter.unusedVariables false
set_option linter.unusedSimpArgs false
theorem between_t (x lo hi : Int) (w : World) (h : lo ≤ x) (h2 : x ≤ hi) :
    Calls Tryz.prog 40 #[.int .i64 x, .int .i64 lo, .int .i64 hi] w fun e w' => e = .returned (.bool true) ∧ w = w' := by
  go_enter Tryz.func40, Tryz.ntmps40
  go_wp2
  go_ret
  exact ⟨rfl, rfl⟩
theorem between_f (x lo hi : Int) (w : World) (h : x < lo ∨ (lo ≤ x ∧ hi < x)) :
    Calls Tryz.prog 40 #[.int .i64 x, .int .i64 lo, .int .i64 hi] w fun e w' => e = .returned (.bool false) ∧ w = w' := by
  rcases h with h | ⟨h1, h2⟩
  · go_enter Tryz.func40, Tryz.ntmps40
    go_wp2
    go_ret
    exact ⟨rfl, rfl⟩
  · have h3 : decide (x ≤ hi) = false := decide_eq_false (by omega)
    go_enter Tryz.func40, Tryz.ntmps40
    go_wp2
    go_ret
    exact ⟨rfl, rfl⟩
theorem qright_t (x : Int) (w : World) (h : 0 ≤ x) (h2 : x ≤ 9007199254740992) :
    Calls Tryz.prog 39 #[.int .i64 x] w fun e w' => e = .returned (.bool true) ∧ w = w' := by
  go_enter Tryz.func39, Tryz.ntmps39
  go_wp2
  go_ret
  exact ⟨rfl, rfl⟩
theorem qright_f (x : Int) (w : World) (h : x < 0 ∨ (0 ≤ x ∧ 9007199254740992 < x)) :
    Calls Tryz.prog 39 #[.int .i64 x] w fun e w' => e = .returned (.bool false) ∧ w = w' := by
  rcases h with h | ⟨h1, h2⟩
  · go_enter Tryz.func39, Tryz.ntmps39
    go_wp2
    go_ret
    exact ⟨rfl, rfl⟩
  · have h3 : decide (x ≤ 9007199254740992) = false := decide_eq_false (by omega)
    go_enter Tryz.func39, Tryz.ntmps39
    go_wp2
    go_ret
    exact ⟨rfl, rfl⟩
/-- Where buckets end, as cells. -/
def endV (G F : Nat) (i : Nat) : Value := .int .i64 (ChartLaw.endAt G i F : Nat)
def endsL (G F n : Nat) : List Value := (List.range n).map (endV G F)
def u64v (n : Nat) : Value := .int .u64 n
/-- What a chart's blocks hold: the weights at c, the chart at c + 1, the ends behind. -/
def Ch (w : World) (c F G M H : Nat) (ws : List Nat) (p : Int) (met : Bool) : Prop :=
  ∃ ev, Bk w (c + 1) 141 #[.int .i64 F, .int .i64 G, .int .i64 M, .int .i64 H, ev, .slice (some ⟨c, 0, none⟩) M M, .int .i64 p, .bool met] ∧ Bk w c 38 (ws.map u64v).toArray ∧ ws.length = M ∧ w.ownsRow (c + 2) 29 1 ev M (endsL G F M)
theorem Ch.below {w w' : World} {c F G M H : Nat} {ws : List Nat} {p : Int} {met : Bool} (h : Ch w c F G M H ws p met) (hb : Below w.heap.size w w') : Ch w' c F G M H ws p met := by
  obtain ⟨ev, h1, h2, h3, h4⟩ := h
  exact ⟨ev, h1.below' hb, h2.below' hb, h3, own_below h4 hb⟩
theorem endsL_len (G F n : Nat) : (endsL G F n).length = n := by simp [endsL]
theorem endsL_get (G F n i : Nat) (h : i < n) : (endsL G F n)[i]? = some (endV G F i) := by simp [endsL, h]
theorem sum_take_succ (ws : List Nat) (k : Nat) (h : k < ws.length) : (ws.take (k + 1)).sum = (ws.take k).sum + ws[k] := by
  rw [List.take_succ_eq_append_getElem h, List.sum_append]; simp
theorem sum_bd (B : Nat) : ∀ (ws : List Nat), (∀ x ∈ ws, x ≤ B) → ws.sum ≤ ws.length * B
  | [], _ => by simp
  | x :: ws, h => by
    have := sum_bd B ws fun y hy => h y (List.mem_cons_of_mem _ hy)
    have := h x List.mem_cons_self
    rw [List.sum_cons, List.length_cons, Nat.succ_mul]
    omega
/-- Total: all weights. -/
theorem total_any (w : World) (c F G M H : Nat) (ws : List Nat) (p : Int) (met : Bool) (h : Ch w c F G M H ws p met) (hM : M ≤ 64) (hw : ∀ x ∈ ws, x ≤ 144115188075855872) :
    Calls Tryz.prog 54 #[.pointer (some ⟨c + 1, 0, none⟩)] w fun e w' => e = .returned (.int .u64 (ws.sum : Nat)) ∧ w = w' := by
  obtain ⟨ev, h1, h2, h3, h4⟩ := h
  have c5 := h1.cell 5
  have hsum : ∀ k, (ws.take k).sum ≤ 9223372036854775808 := fun k => by
    have a := ChartLaw.sum_take_le ws k
    have b := sum_bd _ ws hw
    have : ws.length * 144115188075855872 ≤ 64 * 144115188075855872 := Nat.mul_le_mul_right _ (by omega)
    omega
  have HS := Lib.hid hsum
  have HM := Lib.hid h3
  clear hsum h3 hw h4
  go_enter Tryz.func54, Tryz.ntmps54
  go_wp2_with fail
  go_loop [3, 5, 13] (fun s _ i => ∃ k : Nat, k ≤ M ∧ i = .int .i64 k ∧ s = .int .u64 ((ws.take k).sum : Nat)) (fun _ _ i => M - (intOf i).toNat)
  case atStart => exact ⟨0, Nat.zero_le _, rfl, rfl⟩
  case round =>
    obtain ⟨k, hk, rfl, rfl⟩ := hrel
    have hl := HM.out
    by_cases hlt : k < M
    · have hk' : k < ws.length := by omega
      have d := h2.cell k
      rw [List.getElem?_toArray, List.getElem?_map, List.getElem?_eq_getElem hk'] at d
      replace d : w.cell? ⟨c, k, none⟩ = some (.int .u64 (ws[k] : Nat)) := d
      have s1 := HS.out k
      have s2 := HS.out (k + 1)
      have e := sum_take_succ ws k hk'
      have E := Lib.hid e
      rw [e] at s2
      clear e hl
      generalize ws[k] = x at d s2 E
      generalize (ws.take k).sum = S at s1 s2 E ⊢
      go_wp2_with fail
      go_round
      case rel => exact ⟨k + 1, by omega, by go_num, by rw [E.out]; go_num⟩
      case measure => simp [intOf]; omega
    · have e : ws.take k = ws := List.take_of_length_le (by omega)
      rw [e]
      clear hl e
      go_wp2_with fail
      go_ret
      exact ⟨rfl, rfl⟩
end Go.Proofs.YtjiliegfcljjhaaGreat